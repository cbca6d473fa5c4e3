/- The reference's SameGeneral, MatchGeneral's parts, add. -/
import Derived.Test.YtodapmkdmkhhfaaGreatDoorRef3
import Derived.Test.YtodapmkdmkhhfaaGreatDoorGn3
namespace Go.Proofs.YtodapmkdmkhhfaaGreatDoor
open Go.RowKit

set_option maxRecDepth 100000 in
set_option maxHeartbeats 4000000 in
theorem rgSame_any (k1 k2 : Int) (t1 t2 : ByteArray) (n m : Name) (A B : Option Addr) (c d : Nat) (ht1 : t1.size ≤ 100000) (ht2 : t2.size ≤ 100000) (hn : SmallN n) (hm : SmallN m) (q : Bool)
    (hq : sameG (k1, t1.data.toList, n) (k2, t2.data.toList, m) = q) (w : World) (h1 : Sl RRdn 1 w (Lt w.heap.size) n [.slice A n.length c]) (h2 : Sl RRdn 1 w (Lt w.heap.size) m [.slice B m.length d]) :
    Calls Tryz.prog 34 #[.agg #[.int .i64 k1, .string t1, .slice A n.length c], .agg #[.int .i64 k2, .string t2, .slice B m.length d]] w fun e w' => e = .returned (.bool q) ∧ Below w.heap.size w w' := by
  have K1 := hide h1
  have K2 := hide h2
  have HN := hide hn
  have HM := hide hm
  have HQ0 := hide hq
  clear h1 h2 hn hm hq
  by_cases hk : k1 = k2
  · subst hk
    have t0 : (k1 != k1) = false := by simp
    have HQ := hide (show (if k1 = 1 then (if (mailB t1.data.toList && mailB t2.data.toList) = true then mmB t1.data.toList t2.data.toList else eqF t1.data.toList t2.data.toList) else if k1 = 2 then eqF t1.data.toList t2.data.toList else if k1 = 4 then matchN n m else if k1 = 7 then t1.data.toList == t2.data.toList else false) = q by
      rw [← HQ0.out]
      exact (if_neg (fun h : ¬ k1 = k1 => h rfl)).symm)
    obtain ⟨wa, hwa⟩ : ∃ wa, wa = (w.alloc (.cells #[.int .i64 k1, .string t1, .slice A n.length c] 32)).alloc (.cells #[.int .i64 k1, .string t2, .slice B m.length d] 32) := ⟨_, rfl⟩
    have hba : Below w.heap.size w wa := by rw [hwa]; exact ((Below.refl _ _).alloc (Nat.le_refl _) _).alloc (by simp) _
    have hz1 : (w.alloc (.cells #[.int .i64 k1, .string t1, .slice A n.length c] 32)).heap.size = w.heap.size + 1 := by simp
    have y1 : wa.cell? ⟨w.heap.size, 1, none⟩ = some (.string t1) := by rw [hwa, World.cell?_alloc_lt _ _ _ (by simp), World.cell?_alloc_new]; rfl
    have y2 : wa.cell? ⟨w.heap.size + 1, 1, none⟩ = some (.string t2) := by rw [hwa, ← hz1, World.cell?_alloc_new]; rfl
    obtain ⟨g3, hg3⟩ : ∃ g3, g3 = w.heap.size + 1 := ⟨_, rfl⟩
    rw [← hg3] at y2
    have HBA := hide hba
    have HWA := hide hwa
    have HG3 := hide hg3
    clear hwa hba hz1 hg3
    by_cases g1 : k1 = 1
    · subst g1
      have HQ1 := hide (show (if (mailB t1.data.toList && mailB t2.data.toList) = true then mmB t1.data.toList t2.data.toList else eqF t1.data.toList t2.data.toList) = q by rw [← HQ.out, if_pos rfl])
      obtain ⟨p1, hp1⟩ : ∃ p, mailB t1.data.toList = p := ⟨_, rfl⟩
      obtain ⟨p2, hp2⟩ : ∃ p, mailB t2.data.toList = p := ⟨_, rfl⟩
      have HP1 := hide hp1
      have HP2 := hide hp2
      have HQ2 := hide (show (if (p1 && p2) = true then mmB t1.data.toList t2.data.toList else eqF t1.data.toList t2.data.toList) = q by rw [← HQ1.out, hp1, hp2])
      have Y1 := hide y1
      have Y2 := hide y2
      clear hp1 hp2 HQ1 y1 y2
      go_enter Tryz.func34, Tryz.ntmps34
      go_wp2_with fail
      rw [← HWA.out, ← HG3.out]
      refine (rmail_any t1 (by omega) p1 HP1.out _).mono ?_
      rintro e w2 ⟨rfl, hb2⟩
      have y1 := cell_grows hb2 _ _ Y1.out
      have y2 := cell_grows hb2 _ _ Y2.out
      have HB2 := hide (HBA.out.trans (hb2.mono HBA.out.size))
      clear hb2
      cases p1
      · have HQ1 := hide (show eqF t1.data.toList t2.data.toList = q from HQ2.out)
        go_wp2_with fail
        refine (ralike_any t1 t2 (by omega) (by omega) q HQ1.out _).mono ?_
        rintro e w3 ⟨rfl, hb3⟩
        have HB3 := hide (HB2.out.trans (hb3.mono HB2.out.size))
        clear hb3
        go_wp2_with fail
        go_ret
        exact ⟨rfl, HB3.out⟩
      · go_wp2_with fail
        refine (rmail_any t2 (by omega) p2 HP2.out _).mono ?_
        rintro e w3 ⟨rfl, hb3⟩
        have y1 := cell_grows hb3 _ _ y1
        have y2 := cell_grows hb3 _ _ y2
        have HB3 := hide (HB2.out.trans (hb3.mono HB2.out.size))
        clear hb3
        cases p2
        · have HQ1 := hide (show eqF t1.data.toList t2.data.toList = q from HQ2.out)
          go_wp2_with fail
          refine (ralike_any t1 t2 (by omega) (by omega) q HQ1.out _).mono ?_
          rintro e w4 ⟨rfl, hb4⟩
          have HB4 := hide (HB3.out.trans (hb4.mono HB3.out.size))
          clear hb4
          go_wp2_with fail
          go_ret
          exact ⟨rfl, HB4.out⟩
        · have HQ1 := hide (show mmB t1.data.toList t2.data.toList = q from HQ2.out)
          go_wp2_with fail
          refine (rmm_any t1 t2 (by omega) (by omega) q HQ1.out _).mono ?_
          rintro e w4 ⟨rfl, hb4⟩
          have HB4 := hide (HB3.out.trans (hb4.mono HB3.out.size))
          clear hb4
          go_wp2_with fail
          go_ret
          exact ⟨rfl, HB4.out⟩
    · by_cases g2 : k1 = 2
      · subst g2
        have HQ1 := hide (show eqF t1.data.toList t2.data.toList = q by rw [← HQ.out, if_neg (by decide), if_pos rfl])
        clear y1 y2
        go_enter Tryz.func34, Tryz.ntmps34
        go_wp2_with fail
        rw [← HWA.out]
        refine (ralike_any t1 t2 (by omega) (by omega) q HQ1.out _).mono ?_
        rintro e w2 ⟨rfl, hb2⟩
        go_wp2_with fail
        go_ret
        exact ⟨rfl, HBA.out.trans (hb2.mono HBA.out.size)⟩
      · by_cases g4 : k1 = 4
        · subst g4
          have HQ1 := hide (show matchN n m = q by rw [← HQ.out, if_neg (by decide), if_neg (by decide), if_pos rfl])
          clear y1 y2
          go_enter Tryz.func34, Tryz.ntmps34
          go_wp2_with fail
          rw [← HWA.out]
          refine (HQ1.out ▸ rMatchN_any n m A B c d _ ((Sl.ok RRdn.ok).below K1.out HBA.out) ((Sl.ok RRdn.ok).below K2.out HBA.out) HN.out HM.out).mono ?_
          rintro e w2 ⟨rfl, hb2⟩
          go_wp2_with fail
          go_ret
          exact ⟨rfl, HBA.out.trans (hb2.mono HBA.out.size)⟩
        · by_cases g7 : k1 = 7
          · subst g7
            have HQ1 := hide (show (t1.data.toList == t2.data.toList) = q by rw [← HQ.out, if_neg (by decide), if_neg (by decide), if_neg (by decide), if_pos rfl])
            clear y1 y2
            go_enter Tryz.func34, Tryz.ntmps34
            go_wp2_with fail
            go_ret
            exact ⟨ret_bool (by rw [str_beq]; exact HQ1.out), HWA.out ▸ HBA.out⟩
          · have HQ1 := hide (show false = q by rw [← HQ.out, if_neg g1, if_neg g2, if_neg g4, if_neg g7])
            have e1 : (k1 == 1) = false := by simpa using g1
            have e2 : (k1 == 2) = false := by simpa using g2
            have e4 : (k1 == 4) = false := by simpa using g4
            have e7 : (k1 == 7) = false := by simpa using g7
            clear g1 g2 g4 g7 y1 y2
            go_enter Tryz.func34, Tryz.ntmps34
            go_wp2_with fail
            go_ret
            exact ⟨ret_bool HQ1.out, HWA.out ▸ HBA.out⟩
  · have t0 : (k1 != k2) = true := by rw [bne_iff_ne]; exact hk
    have HQ1 := hide (show false = q by rw [← HQ0.out, sameG, if_pos hk])
    clear hk
    go_enter Tryz.func34, Tryz.ntmps34
    go_wp2_with fail
    go_ret
    exact ⟨ret_bool HQ1.out, ((Below.refl _ _).alloc (Nat.le_refl _) _).alloc (by simp) _⟩
end Go.Proofs.YtodapmkdmkhhfaaGreatDoor
