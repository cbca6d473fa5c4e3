/- The functions of package gname: small, Same; subtree.known. -/
import Derived.Test.YtodapmkdmkhhfaaGreatDoorGn1
import Derived.Test.YtodapmkdmkhhfaaGreatDoorHos2
import Derived.Deep.RegionHeld3
import Derived.Test.YtodapmkdmkhhfaaGreatDoorGnD
import Derived.Test.YtodapmkdmkhhfaaGreatDoorGn2
import Derived.ArgAppend
namespace Go.Proofs.YtodapmkdmkhhfaaGreatDoor
open Go.RowKit


set_option maxHeartbeats 1000000 in
theorem gsmall_any (s : ByteArray) (hs : s.size ≤ 1000000) (w : World) :
    Calls Tryz.prog 55 #[.string s] w fun e w' => e = .returned (.string ⟨(s.data.toList.map low).toArray⟩) ∧ Below w.heap.size w w' := by
  have hsz := size_string s
  generalize hl : s.data.toList = l at hsz
  have HL := hide hl
  have hsl : l.length ≤ 1000000 := by omega
  have hm : l.length ≤ maxLen := by unfold maxLen; omega
  clear hsz hl
  go_enter Tryz.func55, Tryz.ntmps55
  go_wp2_with (with_reducible refine wpList_str_bts _ rfl (.tmp 6) 9 86 5 rfl Tryz.underlying9 Tryz.underlying86 Tryz.underlying5 s rfl l HL.out hm ?_; intro g c w1 hg1 hg2 hb1 hby hc1 hc2)
  go_loopw [10] (fun i wr => ∃ k : Nat, k ≤ l.length ∧ i = .int .i64 k ∧ BytesAt wr 5 g (lowTo l k) ∧ Below w.heap.size w wr) (fun i _ => l.length - (intOf i).toNat)
  case atStart => exact ⟨0, Nat.zero_le _, rfl, by simpa [lowTo] using hby, hb1⟩
  case round =>
    obtain ⟨k, hk, rfl, hby, hb⟩ := hrel
    by_cases hlt : k < l.length
    · have hlt' : k < (lowTo l k).length := by rw [lowTo_len]; exact hlt
      have hcell := hby.cell hlt'
      rw [lowTo_at l k hlt] at hcell
      have hfree := hby.free hlt'
      have hbb := byte_lt l[k]
      obtain ⟨b, hbk⟩ : ∃ b, b = l[k] := ⟨_, rfl⟩
      rw [← hbk] at hcell hbb
      have HB := hide hbk
      clear hbk
      by_cases hup : 65 ≤ (b.toNat : Int) ∧ (b.toNat : Int) ≤ 90
      · have hlow := low_toNat b hup
        have hset := hby.set_ hlt' (low b)
        rw [hlow] at hset
        have HSET := hide (show BytesAt _ _ g (lowTo l (k + 1)) by rw [HB.out, lowTo_set l k hlt, ← HB.out] at hset; exact hset)
        have HBB := hide (Below.setCell hb (p := ⟨g, k, none⟩) hg1 (.int .u8 ((b.toNat : Int) + 32)))
        obtain ⟨hu1, hu2⟩ := hup
        have hw1 : IntKind.u8.wrap ((b.toNat : Int) + 97) = (b.toNat : Int) + 97 := IntWalk.u8_in _ (by omega)
        have hw2 : IntKind.u8.wrap ((b.toNat : Int) + 97 - 65) = (b.toNat : Int) + 32 := by rw [IntWalk.u8_in _ (by omega)]; omega
        have hw3 : (b.toNat : Int) + 97 - 65 = (b.toNat : Int) + 32 := by omega
        clear hset hlow
        go_wp2
        go_roundw
        case rel => exact ⟨k + 1, by omega, by go_num, HSET.out, HBB.out⟩
        case measure => simp [intOf]; omega
      · have HS2 := hide (lowTo_skip l k hlt (by rw [← HB.out]; exact low_same b hup))
        have hb2 : (b.toNat : Int) < 65 ∨ 90 < (b.toNat : Int) := by omega
        clear hup
        rcases hb2 with hb2 | hb2
        all_goals
          go_wp2
          go_roundw
          case rel => exact ⟨k + 1, by omega, by go_num, HS2.out ▸ hby, hb⟩
          case measure => simp [intOf]; omega
    · have hkl : k = l.length := by omega
      subst hkl
      have hfin := hby.sl (c := c) (by rw [lowTo_len]; omega) hc2
      rw [lowTo_len] at hfin
      have hconv := run_bts_str (P := Tryz.prog) wr 86 9 5 Tryz.underlying86 Tryz.underlying5 Tryz.underlying9 _ _ _ hfin
      clear hfin
      go_wp2
      go_ret
      refine ⟨ret_str (by simp [lowTo]), hb⟩
theorem gsmall_held {s : ByteArray} {w0 W : World} {g2 g3 : Nat} {u2 u3 : Value} (hs : s.size ≤ 1000000) (h1 : W.cell? ⟨g2, 1, none⟩ = some u2) (h2 : W.cell? ⟨g3, 1, none⟩ = some u3) (h3 : Below w0.heap.size w0 W) :
    Calls Tryz.prog 55 #[.string s] W fun e w' => ∃ t : ByteArray, Hid (t.data.toList = s.data.toList.map low) ∧ e = .returned (.string t) ∧ w'.cell? ⟨g2, 1, none⟩ = some u2 ∧ w'.cell? ⟨g3, 1, none⟩ = some u3 ∧ Below w0.heap.size w0 w' :=
  (gsmall_any s hs W).mono fun _ _ ⟨he, hb⟩ => ⟨_, hide rfl, he, cell_grows hb _ _ h1, cell_grows hb _ _ h2, h3.trans (hb.mono h3.size)⟩
def sameG (a b : Gen) : Bool :=
  if a.1 ≠ b.1 then false else if a.1 = 1 then (if (mailB a.2.1 && mailB b.2.1) = true then mmB a.2.1 b.2.1 else eqF a.2.1 b.2.1) else if a.1 = 2 then eqF a.2.1 b.2.1 else if a.1 = 4 then matchN a.2.2 b.2.2 else if a.1 = 7 then a.2.1 == b.2.1 else false


set_option maxRecDepth 100000 in
set_option maxHeartbeats 4000000 in
theorem gSame_any (k1 k2 : Int) (t1 t2 : ByteArray) (n m : Name) (A B : Option Addr) (c d : Nat) (ht1 : t1.size ≤ 100000) (ht2 : t2.size ≤ 100000) (hn : SmallN n) (hm : SmallN m) (q : Bool)
    (hq : sameG (k1, t1.data.toList, n) (k2, t2.data.toList, m) = q) (w : World) (hmx : Mx w) (h1 : Sl RRdn 1 w (Lt w.heap.size) n [.slice A n.length c]) (h2 : Sl RRdn 1 w (Lt w.heap.size) m [.slice B m.length d]) :
    Calls Tryz.prog 33 #[.agg #[.int .i64 k1, .string t1, .slice A n.length c], .agg #[.int .i64 k2, .string t2, .slice B m.length d]] w fun e w' => e = .returned (.bool q) ∧ Below w.heap.size w w' := by
  have HMX := hide hmx
  have K1 := hide h1
  have K2 := hide h2
  have HN := hide hn
  have HM := hide hm
  have HQ0 := hide hq
  clear hmx h1 h2 hn hm hq
  by_cases hk : k1 = k2
  · subst hk
    have t0 : (k1 != k1) = false := by simp
    have HQ := hide (show (if k1 = 1 then (if (mailB t1.data.toList && mailB t2.data.toList) = true then mmB t1.data.toList t2.data.toList else eqF t1.data.toList t2.data.toList) else if k1 = 2 then eqF t1.data.toList t2.data.toList else if k1 = 4 then matchN n m else if k1 = 7 then t1.data.toList == t2.data.toList else false) = q by
      rw [← HQ0.out]
      exact (if_neg (fun h : ¬ k1 = k1 => h rfl)).symm)
    obtain ⟨kk, hkk⟩ : ∃ kk, ofK k1 = kk := ⟨_, rfl⟩
    have OF := hide (fun W => of_v k1 kk hkk W)
    obtain ⟨wa, hwa⟩ : ∃ wa, wa = (w.alloc (.cells #[.int .i64 k1, .string t1, .slice A n.length c] 32)).alloc (.cells #[.int .i64 k1, .string t2, .slice B m.length d] 32) := ⟨_, rfl⟩
    have hba : Below w.heap.size w wa := by rw [hwa]; exact ((Below.refl _ _).alloc (Nat.le_refl _) _).alloc (by simp) _
    have hz1 : (w.alloc (.cells #[.int .i64 k1, .string t1, .slice A n.length c] 32)).heap.size = w.heap.size + 1 := by simp
    have y1 : wa.cell? ⟨w.heap.size, 1, none⟩ = some (.string t1) := by rw [hwa, World.cell?_alloc_lt _ _ _ (by simp), World.cell?_alloc_new]; rfl
    have y2 : wa.cell? ⟨w.heap.size + 1, 1, none⟩ = some (.string t2) := by rw [hwa, ← hz1, World.cell?_alloc_new]; rfl
    obtain ⟨g3, hg3⟩ : ∃ g3, g3 = w.heap.size + 1 := ⟨_, rfl⟩
    rw [← hg3] at y2
    have y1d : wa.drew.cell? ⟨w.heap.size, 1, none⟩ = some (.string t1) := y1
    have y2d : wa.drew.cell? ⟨g3, 1, none⟩ = some (.string t2) := y2
    have HBA := hide hba
    have HWA := hide hwa
    have HKK := hide hkk
    have HG3 := hide hg3
    have HY1 := hide y1
    have HY2 := hide y2
    clear hwa hba hkk hg3 hz1 y1 y2 y1d y2d
    by_cases g1 : k1 = 1
    · have HQ1 := hide (show (if (mailB t1.data.toList && mailB t2.data.toList) = true then mmB t1.data.toList t2.data.toList else eqF t1.data.toList t2.data.toList) = q by rw [← HQ.out, if_pos g1])
      obtain rfl : kk = 0 := by rw [← HKK.out, g1]; rfl
      clear g1
      obtain ⟨p1, hp1⟩ : ∃ p, mailB t1.data.toList = p := ⟨_, rfl⟩
      obtain ⟨p2, hp2⟩ : ∃ p, mailB t2.data.toList = p := ⟨_, rfl⟩
      have HP1 := hide hp1
      have HP2 := hide hp2
      have HQ2 := hide (show (if (p1 && p2) = true then mmB t1.data.toList t2.data.toList else eqF t1.data.toList t2.data.toList) = q by rw [← HQ1.out, hp1, hp2])
      clear hp1 hp2 HQ1
      go_enter Tryz.func33, Tryz.ntmps33
      go_wp2_with fail
      refine (OF.out _).mono ?_
      rintro e w1 ⟨rfl, rfl⟩
      go_upto_region 5 with (fail)
      rw [← HWA.out, ← HG3.out]
      have y1 := HY1.out
      have y2 := HY2.out
      go_wp2_with fail
      refine (hmail_any t1 (by omega) p1 HP1.out _ (HMX.out.below HBA.out)).mono ?_
      rintro e w2 ⟨rfl, hb2⟩
      cases p1
      · have HQ1 := hide (show eqF t1.data.toList t2.data.toList = q from HQ2.out)
        have HBZ := hide (HBA.out.trans (hb2.mono HBA.out.size))
        obtain ⟨wz, rfl⟩ : ∃ wz : World, wz = w2 := ⟨_, rfl⟩
        have y1 := cell_grows hb2 _ _ y1
        have y2 := cell_grows hb2 _ _ y2
        have y1d : wz.drew.cell? ⟨w.heap.size, 1, none⟩ = some (.string t1) := y1
        have y2d : wz.drew.cell? ⟨g3, 1, none⟩ = some (.string t2) := y2
        have hbz : Below wz.heap.size wz wz := Below.refl _ _
        have hbzd : Below wz.heap.size wz wz.drew := hbz.drew
        clear hb2
        go_upto_region 7 with (fail)
        go_region_held3 (fun W => W.cell? ⟨w.heap.size, 1, none⟩ = some (.string t1) ∧ W.cell? ⟨g3, 1, none⟩ = some (.string t2) ∧ Below wz.heap.size wz W)
          (first | exact ⟨hs1, hs2, hs3⟩ | exact ⟨y1, y2, hbz⟩ | exact ⟨y1d, y2d, hbzd⟩)
          (first
            | (go_at_call 55; (first | (with_reducible refine (gsmall_held (s := t1) (by omega) y1d y2d hbzd).mono ?_) | (with_reducible refine (gsmall_held (s := t1) (by omega) hs1 hs2 hs3).mono ?_) | fail); rintro e w5 ⟨s1, HU1, rfl, hs1, hs2, hs3⟩)
            | (go_at_call 55; (first | (with_reducible refine (gsmall_held (s := t2) (by omega) y1d y2d hbzd).mono ?_) | (with_reducible refine (gsmall_held (s := t2) (by omega) hs1 hs2 hs3).mono ?_) | fail); rintro e w6 ⟨s2, HU2, rfl, hs1, hs2, hs3⟩)
            | fail)
        all_goals
          go_wp2_with fail
          go_ret
          exact ⟨ret_bool (by rw [str_beq, HU1.out, HU2.out, ← HQ1.out]; rfl), HBZ.out.trans (hs3.mono HBZ.out.size)⟩
      · have y1 := cell_grows hb2 _ _ y1
        have y2 := cell_grows hb2 _ _ y2
        have HB2 := hide (HBA.out.trans (hb2.mono HBA.out.size))
        clear hb2
        go_wp2_with fail
        refine (hmail_any t2 (by omega) p2 HP2.out _ (HMX.out.below HB2.out)).mono ?_
        rintro e w3 ⟨rfl, hb3⟩
        have y1 := cell_grows hb3 _ _ y1
        have y2 := cell_grows hb3 _ _ y2
        have HB3 := hide (HB2.out.trans (hb3.mono HB2.out.size))
        clear hb3
        cases p2
        · have HQ1 := hide (show eqF t1.data.toList t2.data.toList = q from HQ2.out)
          have HBZ := hide HB3.out
          obtain ⟨wz, rfl⟩ : ∃ wz : World, wz = w3 := ⟨_, rfl⟩
          have y1d : wz.drew.cell? ⟨w.heap.size, 1, none⟩ = some (.string t1) := y1
          have y2d : wz.drew.cell? ⟨g3, 1, none⟩ = some (.string t2) := y2
          have hbz : Below wz.heap.size wz wz := Below.refl _ _
          have hbzd : Below wz.heap.size wz wz.drew := hbz.drew
          go_upto_region 7 with (fail)
          go_region_held3 (fun W => W.cell? ⟨w.heap.size, 1, none⟩ = some (.string t1) ∧ W.cell? ⟨g3, 1, none⟩ = some (.string t2) ∧ Below wz.heap.size wz W)
            (first | exact ⟨hs1, hs2, hs3⟩ | exact ⟨y1, y2, hbz⟩ | exact ⟨y1d, y2d, hbzd⟩)
            (first
              | (go_at_call 55; (first | (with_reducible refine (gsmall_held (s := t1) (by omega) y1d y2d hbzd).mono ?_) | (with_reducible refine (gsmall_held (s := t1) (by omega) hs1 hs2 hs3).mono ?_) | fail); rintro e w5 ⟨s1, HU1, rfl, hs1, hs2, hs3⟩)
              | (go_at_call 55; (first | (with_reducible refine (gsmall_held (s := t2) (by omega) y1d y2d hbzd).mono ?_) | (with_reducible refine (gsmall_held (s := t2) (by omega) hs1 hs2 hs3).mono ?_) | fail); rintro e w6 ⟨s2, HU2, rfl, hs1, hs2, hs3⟩)
              | fail)
          all_goals
            go_wp2_with fail
            go_ret
            exact ⟨ret_bool (by rw [str_beq, HU1.out, HU2.out, ← HQ1.out]; rfl), HBZ.out.trans (hs3.mono HBZ.out.size)⟩
        · have HQ1 := hide (show mmB t1.data.toList t2.data.toList = q from HQ2.out)
          go_wp2_with fail
          refine (hmm_any t1 t2 (by omega) (by omega) q HQ1.out _ (HMX.out.below HB3.out)).mono ?_
          rintro e w4 ⟨rfl, hb4⟩
          have HB4 := hide (HB3.out.trans (hb4.mono HB3.out.size))
          clear hb4
          go_wp2_with fail
          go_ret
          exact ⟨rfl, HB4.out⟩
    · by_cases g2 : k1 = 2
      · have HQ1 := hide (show eqF t1.data.toList t2.data.toList = q by rw [← HQ.out, if_neg g1, if_pos g2])
        obtain rfl : kk = 1 := by rw [← HKK.out, g2]; rfl
        clear g1 g2
        go_enter Tryz.func33, Tryz.ntmps33
        go_wp2_with fail
        refine (OF.out _).mono ?_
        rintro e w1 ⟨rfl, rfl⟩
        have y1 := HY1.out
        have y2 := HY2.out
        have y1d : wa.drew.cell? ⟨w.heap.size, 1, none⟩ = some (.string t1) := y1
        have y2d : wa.drew.cell? ⟨g3, 1, none⟩ = some (.string t2) := y2
        have hbz : Below wa.heap.size wa wa := Below.refl _ _
        have hbzd : Below wa.heap.size wa wa.drew := hbz.drew
        have HBZ := hide HBA.out
        go_upto_region 9 with (fail)
        rw [← HWA.out, ← HG3.out]
        obtain ⟨wz, hwz⟩ : ∃ wz : World, wz = wa := ⟨_, rfl⟩
        rw [← hwz] at y1 y2 y1d y2d hbz hbzd HBZ ⊢
        clear hwz
        go_region_held3 (fun W => W.cell? ⟨w.heap.size, 1, none⟩ = some (.string t1) ∧ W.cell? ⟨g3, 1, none⟩ = some (.string t2) ∧ Below wz.heap.size wz W)
          (first | exact ⟨hs1, hs2, hs3⟩ | exact ⟨y1, y2, hbz⟩ | exact ⟨y1d, y2d, hbzd⟩)
          (first
            | (go_at_call 55; (first | (with_reducible refine (gsmall_held (s := t1) (by omega) y1d y2d hbzd).mono ?_) | (with_reducible refine (gsmall_held (s := t1) (by omega) hs1 hs2 hs3).mono ?_) | fail); rintro e w5 ⟨s1, HU1, rfl, hs1, hs2, hs3⟩)
            | (go_at_call 55; (first | (with_reducible refine (gsmall_held (s := t2) (by omega) y1d y2d hbzd).mono ?_) | (with_reducible refine (gsmall_held (s := t2) (by omega) hs1 hs2 hs3).mono ?_) | fail); rintro e w6 ⟨s2, HU2, rfl, hs1, hs2, hs3⟩)
            | fail)
        all_goals
          go_wp2_with fail
          go_ret
          exact ⟨ret_bool (by rw [str_beq, HU1.out, HU2.out, ← HQ1.out]; rfl), HBZ.out.trans (hs3.mono HBZ.out.size)⟩
      · by_cases g4 : k1 = 4
        · have HQ1 := hide (show matchN n m = q by rw [← HQ.out, if_neg g1, if_neg g2, if_pos g4])
          obtain rfl : kk = 2 := by rw [← HKK.out, g4]; rfl
          clear g1 g2 g4
          go_enter Tryz.func33, Tryz.ntmps33
          go_wp2_with fail
          refine (OF.out _).mono ?_
          rintro e w1 ⟨rfl, rfl⟩
          go_wp2_with fail
          rw [← HWA.out]
          refine (HQ1.out ▸ MatchN_any n m A B c d _ ((Sl.ok RRdn.ok).below K1.out HBA.out) ((Sl.ok RRdn.ok).below K2.out HBA.out) HN.out HM.out).mono ?_
          rintro e w2 ⟨rfl, hb2⟩
          go_wp2_with fail
          go_ret
          exact ⟨rfl, HBA.out.trans (hb2.mono HBA.out.size)⟩
        · by_cases g7 : k1 = 7
          · have HQ1 := hide (show (t1.data.toList == t2.data.toList) = q by rw [← HQ.out, if_neg g1, if_neg g2, if_neg g4, if_pos g7])
            obtain rfl : kk = 3 := by rw [← HKK.out, g7]; rfl
            clear g1 g2 g4 g7
            go_enter Tryz.func33, Tryz.ntmps33
            go_wp2_with fail
            refine (OF.out _).mono ?_
            rintro e w1 ⟨rfl, rfl⟩
            go_wp2_with fail
            go_ret
            exact ⟨ret_bool (by rw [str_beq]; exact HQ1.out), HWA.out ▸ HBA.out⟩
          · have HQ1 := hide (show false = q by rw [← HQ.out, if_neg g1, if_neg g2, if_neg g4, if_neg g7])
            obtain rfl : kk = 4 := by rw [← HKK.out, ofK, if_neg g1, if_neg g2, if_neg g4, if_neg g7]
            clear g1 g2 g4 g7
            go_enter Tryz.func33, Tryz.ntmps33
            go_wp2_with fail
            refine (OF.out _).mono ?_
            rintro e w1 ⟨rfl, rfl⟩
            go_wp2_with fail
            go_ret
            exact ⟨ret_bool HQ1.out, HWA.out ▸ HBA.out⟩
  · have t0 : (k1 != k2) = true := by rw [bne_iff_ne]; exact hk
    have HQ1 := hide (show false = q by rw [← HQ0.out, sameG, if_pos hk])
    clear hk
    go_enter Tryz.func33, Tryz.ntmps33
    go_wp2_with fail
    go_ret
    exact ⟨ret_bool HQ1.out, ((Below.refl _ _).alloc (Nat.le_refl _) _).alloc (by simp) _⟩

def knownK (k : Int) : Bool := decide (k = 1) || decide (k = 2) || decide (k = 4) || decide (k = 7)
theorem known_any (k : Int) (w : World) : Calls Tryz.prog 47 #[.int .i64 k] w fun e w' => e = .returned (.bool (knownK k)) ∧ w = w' := by
  unfold knownK
  go_enter Tryz.func47, Tryz.ntmps47
  go_wp2
  all_goals go_ret
  all_goals (refine ⟨ret_bool ?_, rfl⟩; first | rfl | (rw [Bool.eq_iff_iff]; simp; done) | (rw [Bool.eq_iff_iff]; simp; omega))
end Go.Proofs.YtodapmkdmkhhfaaGreatDoor

/- The plain law behind SubtreeSame: a reduced state permits what the state permits. -/
namespace Go.Proofs.YtodapmkdmkhhfaaGreatDoor
open Go.RowKit

def addG (l : List Gen) (g : Gen) : List Gen := if l.any (fun x => sameG x g) then l else l ++ [g]
def posK (l : List Int) (k : Int) : Nat := (l.takeWhile (fun x => decide (x < k))).length
def insK (l : List Int) (k : Int) : List Int := if posK l k = l.length ∨ l.getD (posK l k) 0 ≠ k then l.take (posK l k) ++ k :: l.drop (posK l k) else l
def limStep (l : List Int) (g : Gen) : List Int := if knownK g.1 then insK l g.1 else l
def perStep (st : List Sub) (k : Int) (l : List Gen) (g : Gen) : List Gen := if (g.1 == k && allowsG st g) = true then addG l g else l
def redLim (st : List Sub) : List Int := st.foldl (fun l s => s.1.foldl limStep l) []
def redEx (st : List Sub) : List Gen := st.foldl (fun l s => s.2.foldl addG l) []
def redPer (st : List Sub) (lim : List Int) : List Gen := lim.foldl (fun l k => st.foldl (fun l s => s.1.foldl (perStep st k) l) l) []
def permitsR (lim : List Int) (per ex : List Gen) (g : Gen) : Bool := !(insideG g ex) && (if lim.any (fun k => k == g.1) then insideG g per else true)

/-! ### bases: an order in which what lies over one name is a chain -/
theorem withinG_kind {g b : Gen} (h : withinG g b = true) : g.1 = b.1 := by
  unfold withinG at h
  by_cases hk : g.1 = b.1
  · exact hk
  · rw [if_pos hk] at h; cases h
theorem tm_trans : ∀ g ∈ gMail ++ bMail, ∀ b ∈ bMail, ∀ c ∈ bMail, mwB g b = true → mwB b c = true → mwB g c = true := by decide +kernel
theorem td_trans : ∀ g ∈ gDns ++ bDns, ∀ b ∈ bDns, ∀ c ∈ bDns, dnsWB g b = true → dnsWB b c = true → dnsWB g c = true := by decide +kernel
theorem ta_trans : ∀ g ∈ gAddr ++ bAddr, ∀ b ∈ bAddr, ∀ c ∈ bAddr, awB g b = true → awB b c = true → awB g c = true := by decide +kernel
theorem tm_lam : ∀ g ∈ gMail, ∀ b ∈ bMail, ∀ c ∈ bMail, mwB g b = true → mwB g c = true → mwB b c = true ∨ mwB c b = true := by decide +kernel
theorem td_lam : ∀ g ∈ gDns, ∀ b ∈ bDns, ∀ c ∈ bDns, dnsWB g b = true → dnsWB g c = true → dnsWB b c = true ∨ dnsWB c b = true := by decide +kernel
theorem ta_lam : ∀ g ∈ gAddr, ∀ b ∈ bAddr, ∀ c ∈ bAddr, awB g b = true → awB g c = true → awB b c = true ∨ awB c b = true := by decide +kernel
theorem tm_refl : ∀ b ∈ bMail, mwB b b = true := by decide +kernel
theorem td_refl : ∀ b ∈ bDns, dnsWB b b = true := by decide +kernel
theorem ta_refl : ∀ b ∈ bAddr, awB b b = true := by decide +kernel
theorem tm_same : ∀ g ∈ gMail, ∀ b ∈ bMail, ∀ c ∈ bMail, (if (mailB b && mailB c) = true then mmB b c else eqF b c) = true → mwB g b = mwB g c := by decide +kernel
theorem td_same : ∀ g ∈ gDns, ∀ b ∈ bDns, ∀ c ∈ bDns, eqF b c = true → dnsWB g b = dnsWB g c := by decide +kernel
theorem good_form {g : Gen} (h : GoodGen g ∨ GoodBase g) : (∃ t ∈ gMail ++ bMail, g = (1, t, [])) ∨ (∃ t ∈ gDns ++ bDns, g = (2, t, [])) ∨ (∃ t ∈ gAddr ++ bAddr, g = (7, t, [])) ∨ ∃ n, g = (4, [], n) := by
  rcases h with (⟨t, ht, h⟩ | ⟨t, ht, h⟩ | ⟨t, ht, h⟩ | ⟨n, _, h⟩) | (⟨t, ht, h⟩ | ⟨t, ht, h⟩ | ⟨t, ht, h⟩ | ⟨n, _, h⟩)
  · exact .inl ⟨t, List.mem_append_left _ ht, h⟩
  · exact .inr (.inl ⟨t, List.mem_append_left _ ht, h⟩)
  · exact .inr (.inr (.inl ⟨t, List.mem_append_left _ ht, h⟩))
  · exact .inr (.inr (.inr ⟨n, h⟩))
  · exact .inl ⟨t, List.mem_append_right _ ht, h⟩
  · exact .inr (.inl ⟨t, List.mem_append_right _ ht, h⟩)
  · exact .inr (.inr (.inl ⟨t, List.mem_append_right _ ht, h⟩))
  · exact .inr (.inr (.inr ⟨n, h⟩))
theorem NPre.lam : ∀ {n a b : Name}, NPre n a → NPre n b → NPre a b ∨ NPre b a
  | _, _, [], _, _ => .inl (by simp [NPre])
  | _, [], _ :: _, _, _ => .inr (by simp [NPre])
  | [], _ :: _, _ :: _, h, _ => h.elim
  | _ :: _, _ :: _, _ :: _, h, h2 => by
    rcases NPre.lam h.2 h2.2 with h3 | h3
    · exact .inl ⟨sameR_trans (sameR_symm h.1) h2.1, h3⟩
    · exact .inr ⟨sameR_trans (sameR_symm h2.1) h.1, h3⟩
theorem base_trans {g b c : Gen} (hg : GoodGen g ∨ GoodBase g) (hb : GoodBase b) (hc : GoodBase c) (h1 : withinG g b = true) (h2 : withinG b c = true) : withinG g c = true := by
  have hk1 := withinG_kind h1
  have hk2 := withinG_kind h2
  rcases good_form hg with ⟨tg, hgt, rfl⟩ | ⟨tg, hgt, rfl⟩ | ⟨tg, hgt, rfl⟩ | ⟨tg, rfl⟩ <;>
    rcases hb with ⟨tb, hb, rfl⟩ | ⟨tb, hb, rfl⟩ | ⟨tb, hb, rfl⟩ | ⟨tb, hb, rfl⟩ <;> (first | (exfalso; revert hk1; simp; done) | skip) <;>
    rcases hc with ⟨tc, hc, rfl⟩ | ⟨tc, hc, rfl⟩ | ⟨tc, hc, rfl⟩ | ⟨tc, hc, rfl⟩ <;> (first | (exfalso; revert hk2; simp; done) | skip)
  · exact tm_trans tg hgt tb hb tc hc h1 h2
  · exact td_trans tg hgt tb hb tc hc h1 h2
  · exact ta_trans tg hgt tb hb tc hc h1 h2
  · exact (withinN_iff _ _).2 (((withinN_iff _ _).1 h1).trans ((withinN_iff _ _).1 h2))
theorem base_lam {g b c : Gen} (hg : GoodGen g) (hb : GoodBase b) (hc : GoodBase c) (h1 : withinG g b = true) (h2 : withinG g c = true) : withinG b c = true ∨ withinG c b = true := by
  have hk1 := withinG_kind h1
  have hk2 := withinG_kind h2
  rcases hg with ⟨tg, hg, rfl⟩ | ⟨tg, hg, rfl⟩ | ⟨tg, hg, rfl⟩ | ⟨tg, hg, rfl⟩ <;>
    rcases hb with ⟨tb, hb, rfl⟩ | ⟨tb, hb, rfl⟩ | ⟨tb, hb, rfl⟩ | ⟨tb, hb, rfl⟩ <;> (first | (exfalso; revert hk1; simp; done) | skip) <;>
    rcases hc with ⟨tc, hc, rfl⟩ | ⟨tc, hc, rfl⟩ | ⟨tc, hc, rfl⟩ | ⟨tc, hc, rfl⟩ <;> (first | (exfalso; revert hk2; simp; done) | skip)
  · exact tm_lam tg hg tb hb tc hc h1 h2
  · exact td_lam tg hg tb hb tc hc h1 h2
  · exact ta_lam tg hg tb hb tc hc h1 h2
  · rcases NPre.lam ((withinN_iff _ _).1 h1) ((withinN_iff _ _).1 h2) with h | h
    · exact .inl ((withinN_iff _ _).2 h)
    · exact .inr ((withinN_iff _ _).2 h)
theorem base_refl {b : Gen} (hb : GoodBase b) : withinG b b = true := by
  rcases hb with ⟨tb, hb, rfl⟩ | ⟨tb, hb, rfl⟩ | ⟨tb, hb, rfl⟩ | ⟨tb, hb, rfl⟩
  · exact tm_refl tb hb
  · exact td_refl tb hb
  · exact ta_refl tb hb
  · exact (withinN_iff _ _).2 (NSame.refl tb).pre
theorem withinG_off {g b : Gen} (h : g.1 ≠ b.1) : withinG g b = false := by unfold withinG; rw [if_pos h]
theorem sameG_kind {g b : Gen} (h : sameG g b = true) : g.1 = b.1 := by
  unfold sameG at h
  by_cases hk : g.1 = b.1
  · exact hk
  · rw [if_pos hk] at h; cases h
theorem base_same {g x y : Gen} (hg : GoodGen g) (hx : GoodBase x) (hy : GoodBase y) (h : sameG x y = true) : withinG g x = withinG g y := by
  have hk := sameG_kind h
  by_cases hgx : g.1 = x.1
  · rcases hg with ⟨tg, hg, rfl⟩ | ⟨tg, hg, rfl⟩ | ⟨tg, hg, rfl⟩ | ⟨tg, hg, rfl⟩ <;>
      rcases hx with ⟨tb, hb, rfl⟩ | ⟨tb, hb, rfl⟩ | ⟨tb, hb, rfl⟩ | ⟨tb, hb, rfl⟩ <;> (first | (exfalso; revert hgx; simp; done) | skip) <;>
      rcases hy with ⟨tc, hc, rfl⟩ | ⟨tc, hc, rfl⟩ | ⟨tc, hc, rfl⟩ | ⟨tc, hc, rfl⟩ <;> (first | (exfalso; revert hk; simp; done) | skip)
    · exact tm_same tg hg tb hb tc hc h
    · exact td_same tg hg tb hb tc hc h
    · have : tb = tc := by
        have h' : (tb == tc) = true := h
        simpa using h'
      rw [this]
    · have h' : NSame tb tc := (matchN_iff _ _).1 h
      show withinN tg tb = withinN tg tc
      rw [Bool.eq_iff_iff, withinN_iff, withinN_iff]
      exact ⟨fun h2 => h2.of_same h', fun h2 => h2.of_same h'.symm⟩
  · rw [withinG_off hgx, withinG_off (by rw [← hk]; exact hgx)]

/-! ### the lists -/
def GoodBs (l : List Gen) : Prop := ∀ b ∈ l, GoodBase b
theorem addG_good {l : List Gen} {b : Gen} (hl : GoodBs l) (hb : GoodBase b) : GoodBs (addG l b) := by
  unfold addG
  split
  · exact hl
  · intro x hx
    rcases List.mem_append.1 hx with hx | hx
    · exact hl x hx
    · simp at hx; subst hx; exact hb
theorem addG_in {l : List Gen} {b g : Gen} (hg : GoodGen g) (hl : GoodBs l) (hb : GoodBase b) : insideG g (addG l b) = (insideG g l || withinG g b) := by
  unfold addG
  split
  · rename_i h
    obtain ⟨x, hx, hs⟩ := List.any_eq_true.1 h
    by_cases hw : withinG g b = true
    · have : insideG g l = true := List.any_eq_true.2 ⟨x, hx, (base_same hg (hl x hx) hb hs).trans hw⟩
      rw [this]; rfl
    · have hw : withinG g b = false := by simpa using hw
      rw [hw, Bool.or_false]
  · unfold insideG
    rw [List.any_append]
    simp
theorem exFold {g : Gen} (hg : GoodGen g) : ∀ (l acc : List Gen), GoodBs acc → GoodBs l → GoodBs (l.foldl addG acc) ∧ insideG g (l.foldl addG acc) = (insideG g acc || insideG g l)
  | [], acc, ha, _ => ⟨ha, by simp [insideG]⟩
  | b :: l, acc, ha, hl => by
    have hb := hl b (by simp)
    obtain ⟨h1, h2⟩ := exFold hg l (addG acc b) (addG_good ha hb) (fun x hx => hl x (by simp [hx]))
    refine ⟨h1, ?_⟩
    show insideG g (l.foldl addG (addG acc b)) = _
    rw [h2, addG_in hg ha hb, Bool.or_assoc]
    rfl
theorem exAll {g : Gen} (hg : GoodGen g) : ∀ (st : List Sub) (acc : List Gen), GoodBs acc → (∀ s ∈ st, GoodBs s.2) →
    GoodBs (st.foldl (fun l s => s.2.foldl addG l) acc) ∧ insideG g (st.foldl (fun l s => s.2.foldl addG l) acc) = (insideG g acc || st.any fun s => insideG g s.2)
  | [], acc, ha, _ => ⟨ha, by simp⟩
  | s :: st, acc, ha, hl => by
    obtain ⟨h1, h2⟩ := exFold hg s.2 acc ha (hl s (by simp))
    obtain ⟨h3, h4⟩ := exAll hg st (s.2.foldl addG acc) h1 (fun x hx => hl x (by simp [hx]))
    refine ⟨h3, ?_⟩
    show insideG g (st.foldl (fun l s => s.2.foldl addG l) (s.2.foldl addG acc)) = _
    rw [h4, h2, Bool.or_assoc]
    rfl
def perOk (st : List Sub) (k : Int) (g b : Gen) : Bool := (b.1 == k && allowsG st b) && withinG g b
theorem perStep_both {st : List Sub} {k : Int} {l : List Gen} {b g : Gen} (hg : GoodGen g) (hl : GoodBs l) (hb : GoodBase b) : GoodBs (perStep st k l b) ∧ insideG g (perStep st k l b) = (insideG g l || perOk st k g b) := by
  unfold perStep perOk
  split
  · rename_i h
    exact ⟨addG_good hl hb, by rw [addG_in hg hl hb, h, Bool.true_and]⟩
  · rename_i h
    have h : (b.1 == k && allowsG st b) = false := by simpa using h
    exact ⟨hl, by rw [h, Bool.false_and, Bool.or_false]⟩
theorem perFold {st : List Sub} {k : Int} {g : Gen} (hg : GoodGen g) : ∀ (l acc : List Gen), GoodBs acc → GoodBs l → GoodBs (l.foldl (perStep st k) acc) ∧ insideG g (l.foldl (perStep st k) acc) = (insideG g acc || l.any (perOk st k g))
  | [], acc, ha, _ => ⟨ha, by simp⟩
  | b :: l, acc, ha, hl => by
    have hb := hl b (by simp)
    obtain ⟨h0, h0'⟩ := perStep_both (st := st) (k := k) hg ha hb
    obtain ⟨h1, h2⟩ := perFold hg l (perStep st k acc b) h0 (fun x hx => hl x (by simp [hx]))
    refine ⟨h1, ?_⟩
    show insideG g (l.foldl (perStep st k) (perStep st k acc b)) = _
    rw [h2, h0', Bool.or_assoc]
    rfl
theorem perAll {st : List Sub} {k : Int} {g : Gen} (hg : GoodGen g) : ∀ (ss : List Sub) (acc : List Gen), GoodBs acc → (∀ s ∈ ss, GoodBs s.1) →
    GoodBs (ss.foldl (fun l s => s.1.foldl (perStep st k) l) acc) ∧ insideG g (ss.foldl (fun l s => s.1.foldl (perStep st k) l) acc) = (insideG g acc || ss.any fun s => s.1.any (perOk st k g))
  | [], acc, ha, _ => ⟨ha, by simp⟩
  | s :: ss, acc, ha, hl => by
    obtain ⟨h1, h2⟩ := perFold (st := st) (k := k) hg s.1 acc ha (hl s (by simp))
    obtain ⟨h3, h4⟩ := perAll hg ss (s.1.foldl (perStep st k) acc) h1 (fun x hx => hl x (by simp [hx]))
    refine ⟨h3, ?_⟩
    show insideG g (ss.foldl (fun l s => s.1.foldl (perStep st k) l) (s.1.foldl (perStep st k) acc)) = _
    rw [h4, h2, Bool.or_assoc]
    rfl
theorem perLim {st : List Sub} {g : Gen} (hg : GoodGen g) (hst : ∀ s ∈ st, GoodBs s.1) : ∀ (lim : List Int) (acc : List Gen), GoodBs acc →
    GoodBs (lim.foldl (fun l k => st.foldl (fun l s => s.1.foldl (perStep st k) l) l) acc) ∧ insideG g (lim.foldl (fun l k => st.foldl (fun l s => s.1.foldl (perStep st k) l) l) acc) = (insideG g acc || lim.any fun k => st.any fun s => s.1.any (perOk st k g))
  | [], acc, ha => ⟨ha, by simp⟩
  | k :: lim, acc, ha => by
    obtain ⟨h1, h2⟩ := perAll (st := st) (k := k) hg st acc ha hst
    obtain ⟨h3, h4⟩ := perLim hg hst lim _ h1
    refine ⟨h3, ?_⟩
    show insideG g (lim.foldl (fun l k => st.foldl (fun l s => s.1.foldl (perStep st k) l) l) (st.foldl (fun l s => s.1.foldl (perStep st k) l) acc)) = _
    rw [h4, h2, Bool.or_assoc]
    rfl
theorem posK_le (l : List Int) (k : Int) : posK l k ≤ l.length := (List.takeWhile_prefix _).length_le
theorem mem_insK {l : List Int} {k x : Int} : x ∈ insK l k ↔ x = k ∨ x ∈ l := by
  have hl : x ∈ l ↔ x ∈ l.take (posK l k) ∨ x ∈ l.drop (posK l k) := by rw [← List.mem_append, List.take_append_drop]
  unfold insK
  split
  · rw [List.mem_append, List.mem_cons, hl]
    constructor
    · rintro (h | h | h)
      · exact .inr (.inl h)
      · exact .inl h
      · exact .inr (.inr h)
    · rintro (h | h | h)
      · exact .inr (.inl h)
      · exact .inl h
      · exact .inr (.inr h)
  · rename_i h
    rw [not_or] at h
    have hp := posK_le l k
    have hlt : posK l k < l.length := by omega
    have hk : k ∈ l := by
      have h2 : l.getD (posK l k) 0 = k := by simpa using h.2
      rw [List.getD_eq_getElem?_getD, List.getElem?_eq_getElem hlt] at h2
      have h3 : l[posK l k] = k := h2
      rw [← h3]
      exact List.getElem_mem hlt
    constructor
    · exact .inr
    · rintro (rfl | h)
      · exact hk
      · exact h
theorem limFold {x : Int} : ∀ (l : List Gen) (acc : List Int), x ∈ l.foldl limStep acc ↔ x ∈ acc ∨ (knownK x = true ∧ ∃ b ∈ l, b.1 = x)
  | [], acc => by simp
  | b :: l, acc => by
    show x ∈ l.foldl limStep (limStep acc b) ↔ _
    rw [limFold l]
    unfold limStep
    by_cases hk : knownK b.1 = true
    · rw [if_pos hk, mem_insK]
      constructor
      · rintro ((h | h) | ⟨h, c, hc, hcx⟩)
        · exact .inr ⟨h ▸ hk, b, by simp, h.symm⟩
        · exact .inl h
        · exact .inr ⟨h, c, by simp [hc], hcx⟩
      · rintro (h | ⟨h, c, hc, hcx⟩)
        · exact .inl (.inr h)
        · rcases List.mem_cons.1 hc with rfl | hc
          · exact .inl (.inl hcx.symm)
          · exact .inr ⟨h, c, hc, hcx⟩
    · rw [if_neg hk]
      constructor
      · rintro (h | ⟨h, c, hc, hcx⟩)
        · exact .inl h
        · exact .inr ⟨h, c, by simp [hc], hcx⟩
      · rintro (h | ⟨h, c, hc, hcx⟩)
        · exact .inl h
        · rcases List.mem_cons.1 hc with rfl | hc
          · rw [hcx] at hk; exact absurd h hk
          · exact .inr ⟨h, c, hc, hcx⟩
theorem limAll {x : Int} : ∀ (st : List Sub) (acc : List Int), x ∈ st.foldl (fun l s => s.1.foldl limStep l) acc ↔ x ∈ acc ∨ (knownK x = true ∧ ∃ s ∈ st, ∃ b ∈ s.1, b.1 = x)
  | [], acc => by simp
  | s :: st, acc => by
    show x ∈ st.foldl (fun l s => s.1.foldl limStep l) (s.1.foldl limStep acc) ↔ _
    rw [limAll st, limFold]
    constructor
    · rintro ((h | ⟨h, hb⟩) | ⟨h, t, ht, hb⟩)
      · exact .inl h
      · exact .inr ⟨h, s, by simp, hb⟩
      · exact .inr ⟨h, t, by simp [ht], hb⟩
    · rintro (h | ⟨h, t, ht, hb⟩)
      · exact .inl (.inl h)
      · rcases List.mem_cons.1 ht with rfl | ht
        · exact .inl (.inr ⟨h, hb⟩)
        · exact .inr ⟨h, t, ht, hb⟩
theorem limits_iff (l : List Gen) (k : Int) : limitsG l k = true ↔ ∃ b ∈ l, b.1 = k := by simp [limitsG]
theorem inside_iff (g : Gen) (l : List Gen) : insideG g l = true ↔ ∃ b ∈ l, withinG g b = true := by simp [insideG]
theorem allow_iff (g : Gen) (s : Sub) : allowG g s = true ↔ (limitsG s.1 g.1 = true → insideG g s.1 = true) := by
  unfold allowG
  cases limitsG s.1 g.1 <;> simp
theorem allows_iff (st : List Sub) (g : Gen) : allowsG st g = true ↔ ∀ s ∈ st, limitsG s.1 g.1 = true → insideG g s.1 = true := by
  unfold allowsG
  rw [List.all_eq_true]
  exact ⟨fun h s hs => (allow_iff g s).1 (h s hs), fun h s hs => (allow_iff g s).2 (h s hs)⟩
/-- the least of the bases over a name that the constraints name -/
theorem least_base {g : Gen} (hg : GoodGen g) : ∀ (st : List Sub) (b : Gen), GoodBase b → withinG g b = true → (∀ s ∈ st, GoodBs s.1) → (∀ s ∈ st, limitsG s.1 g.1 = true → insideG g s.1 = true) →
    ∃ c, (c = b ∨ ∃ s ∈ st, c ∈ s.1) ∧ GoodBase c ∧ withinG g c = true ∧ withinG c b = true ∧ ∀ s ∈ st, limitsG s.1 g.1 = true → insideG c s.1 = true
  | [], b, hb, hw, _, _ => ⟨b, .inl rfl, hb, hw, base_refl hb, fun s hs => by cases hs⟩
  | s :: st, b, hb, hw, hst, hall => by
    obtain ⟨c, h1, h2, h3, h4, h5⟩ := least_base hg st b hb hw (fun x hx => hst x (by simp [hx])) (fun x hx => hall x (by simp [hx]))
    by_cases hl : limitsG s.1 g.1 = true
    · obtain ⟨d, hd, hwd⟩ := (inside_iff _ _).1 (hall s (by simp) hl)
      have hgd := hst s (by simp) d hd
      rcases base_lam hg h2 hgd h3 hwd with hcd | hdc
      · refine ⟨c, ?_, h2, h3, h4, fun x hx hxl => ?_⟩
        · rcases h1 with h1 | ⟨t, ht, htc⟩
          · exact .inl h1
          · exact .inr ⟨t, by simp [ht], htc⟩
        · rcases List.mem_cons.1 hx with rfl | hx
          · exact (inside_iff _ _).2 ⟨d, hd, hcd⟩
          · exact h5 x hx hxl
      · refine ⟨d, .inr ⟨s, by simp, hd⟩, hgd, hwd, base_trans (.inr hgd) h2 hb hdc h4, fun x hx hxl => ?_⟩
        rcases List.mem_cons.1 hx with rfl | hx
        · exact (inside_iff _ _).2 ⟨d, hd, base_refl hgd⟩
        · obtain ⟨y, hy, hcy⟩ := (inside_iff _ _).1 (h5 x hx hxl)
          exact (inside_iff _ _).2 ⟨y, hy, base_trans (.inr hgd) h2 (hst x (by simp [hx]) y hy) hdc hcy⟩
    · refine ⟨c, ?_, h2, h3, h4, fun x hx hxl => ?_⟩
      · rcases h1 with h1 | ⟨t, ht, htc⟩
        · exact .inl h1
        · exact .inr ⟨t, by simp [ht], htc⟩
      · rcases List.mem_cons.1 hx with rfl | hx
        · exact absurd hxl hl
        · exact h5 x hx hxl
theorem good_known {g : Gen} (hg : GoodGen g) : knownK g.1 = true := by
  rcases hg with ⟨tg, hg, rfl⟩ | ⟨tg, hg, rfl⟩ | ⟨tg, hg, rfl⟩ | ⟨tg, hg, rfl⟩ <;> rfl
theorem permitsR_reduce {st : List Sub} (h1 : ∀ s ∈ st, GoodBs s.1) (h2 : ∀ s ∈ st, GoodBs s.2) {g : Gen} (hg : GoodGen g) : permitsR (redLim st) (redPer st (redLim st)) (redEx st) g = permitsG st g := by
  have hex : insideG g (redEx st) = st.any fun s => insideG g s.2 := by
    have := (exAll hg st [] (fun x hx => by cases hx) h2).2
    simpa [insideG, redEx] using this
  have hper : insideG g (redPer st (redLim st)) = (redLim st).any fun k => st.any fun s => s.1.any (perOk st k g) := by
    have := (perLim (st := st) hg h1 (redLim st) [] (fun x hx => by cases hx)).2
    simpa [insideG, redPer] using this
  have hlim : ∀ x, x ∈ redLim st ↔ knownK x = true ∧ ∃ s ∈ st, ∃ b ∈ s.1, b.1 = x := fun x => by
    have := limAll (x := x) st []
    simpa [redLim] using this
  unfold permitsR permitsG
  rw [hex]
  congr 1
  by_cases hany : (redLim st).any (fun k => k == g.1) = true
  · rw [if_pos hany, hper]
    obtain ⟨k, hk, hkg⟩ := List.any_eq_true.1 hany
    have hkg : k = g.1 := by simpa using hkg
    subst hkg
    obtain ⟨-, s0, hs0, b0, hb0, hb0k⟩ := (hlim _).1 hk
    rw [Bool.eq_iff_iff, allows_iff]
    constructor
    · intro h s hs hl
      obtain ⟨k', hk', h⟩ := List.any_eq_true.1 h
      obtain ⟨t, ht, h⟩ := List.any_eq_true.1 h
      obtain ⟨b, hb, h⟩ := List.any_eq_true.1 h
      unfold perOk at h
      simp only [Bool.and_eq_true, beq_iff_eq] at h
      obtain ⟨⟨_, hba⟩, hgb⟩ := h
      have hkb := withinG_kind hgb
      obtain ⟨c, hc, hbc⟩ := (inside_iff _ _).1 ((allows_iff _ _).1 hba s hs (by rw [← hkb]; exact hl))
      exact (inside_iff _ _).2 ⟨c, hc, base_trans (.inl hg) (h1 t ht b hb) (h1 s hs c hc) hgb hbc⟩
    · intro h
      obtain ⟨b, hb, hgb⟩ := (inside_iff _ _).1 (h s0 hs0 ((limits_iff _ _).2 ⟨b0, hb0, hb0k⟩))
      obtain ⟨c, hc1, hc2, hc3, hc4, hc5⟩ := least_base hg st b (h1 s0 hs0 b hb) hgb h1 h
      have hck := withinG_kind hc3
      have hin : ∃ s ∈ st, c ∈ s.1 := by
        rcases hc1 with rfl | hc1
        · exact ⟨s0, hs0, hb⟩
        · exact hc1
      obtain ⟨s, hs, hcs⟩ := hin
      refine List.any_eq_true.2 ⟨g.1, hk, List.any_eq_true.2 ⟨s, hs, List.any_eq_true.2 ⟨c, hcs, ?_⟩⟩⟩
      unfold perOk
      simp only [Bool.and_eq_true, beq_iff_eq]
      exact ⟨⟨hck.symm, (allows_iff _ _).2 fun x hx hxl => hc5 x hx (by rw [hck]; exact hxl)⟩, hc3⟩
  · rw [if_neg hany]
    symm
    rw [allows_iff]
    intro s hs hl
    obtain ⟨b, hb, hbk⟩ := (limits_iff _ _).1 hl
    exact absurd (List.any_eq_true.2 ⟨g.1, (hlim _).2 ⟨good_known hg, s, hs, b, hb, hbk⟩, by simp⟩) hany
end Go.Proofs.YtodapmkdmkhhfaaGreatDoor

/- The functions of package subtree: add, PermitsReduced. -/
namespace Go.Proofs.YtodapmkdmkhhfaaGreatDoor
open Go.RowKit

theorem gen_step2 {w W w1 : World} {base : Nat} {S : Nat → Prop} {v : Value} {l : List Gen} {k : Int} {t : ByteArray} {n : Name} {A1 : Option Addr} {c1 : Nat} (hown : Own RGen 3 32 w base S v l) (hS : ∀ j, S j → j < w.heap.size)
    (hbW : Below w.heap.size w W) (hb : Below W.heap.size W w1) (h1 : Sl RRdn 1 w1 (Btw W.heap.size w1.heap.size) n [.slice A1 n.length c1]) :
    Own RGen 3 32 (w1.alloc (.cells #[.int .i64 k, .string t, .slice A1 n.length c1] 32)) base (fun j => S j ∨ (w.heap.size ≤ j ∧ j < w1.heap.size)) v l ∧
      (∀ i z, [((k, t.data.toList, n) : Gen)][i]? = some z → ∃ cs, RGen (w1.alloc (.cells #[.int .i64 k, .string t, .slice A1 n.length c1] 32)) (fun j => S j ∨ (w.heap.size ≤ j ∧ j < w1.heap.size)) z cs ∧ ∀ j u, cs[j]? = some u → (w1.alloc (.cells #[.int .i64 k, .string t, .slice A1 n.length c1] 32)).cell? ((⟨w1.heap.size, 0, none⟩ : Addr).add (i * 3 + j)) = some u) := by
  have hz := hb.size
  have hzW := hbW.size
  have hnoS : ∀ g, v.ownBlock = some g → ¬ (S g ∨ (w.heap.size ≤ g ∧ g < w1.heap.size)) := fun g hg hh => by
    have hlt := (hown.lt g hg).2
    rcases hh with hh | hh
    · obtain ⟨_, _, h2, _⟩ := hown
      exact h2 g hg hh
    · omega
  have hbb : Below w.heap.size w w1 := hbW.trans (hb.mono hbW.size)
  have hownO := ((hown.below RGen.ok hS hbb).more RGen.ok (S' := fun j => S j ∨ (w.heap.size ≤ j ∧ j < w1.heap.size)) (fun j hj => .inl hj) hnoS)
  have hS2 : ∀ j, (S j ∨ (w.heap.size ≤ j ∧ j < w1.heap.size)) → j < w1.heap.size := fun j hj => by
    rcases hj with hj | hj
    · have := hS j hj; omega
    · omega
  have hownA := hownO.alloc RGen.ok hS2 (.cells #[.int .i64 k, .string t, .slice A1 n.length c1] 32)
  refine ⟨hownA, fun i z hz => ?_⟩
  match i, hz with
  | 0, hz =>
    simp at hz; subst hz
    refine ⟨[.int .i64 k, .string t, .slice A1 n.length c1], ⟨_, rfl, (Sl.ok RRdn.ok).mono h1 (fun j hj => Below.heap_alloc _ _ j hj.2) (fun j hj => .inr ⟨by have := hj.1; omega, hj.2⟩)⟩, fun j u hu => ?_⟩
    rw [Addr.add_lit, Nat.zero_mul, Nat.zero_add, Nat.zero_add, World.cell?_alloc_new]
    simpa using hu

def AddPost (w : World) (base : Nat) (S : Nat → Prop) (v : Value) (l : List Gen) (e : Ending) (w' : World) : Prop :=
  ∃ (A : Option Addr) (c : Nat) (S' : Nat → Prop), e = .returned (.slice A l.length c) ∧ Own RGen 3 32 w' base S' (.slice A l.length c) l ∧ (∀ j, S' j → S j ∨ (w.heap.size ≤ j ∧ j < w'.heap.size)) ∧ w.grownBy w' v.ownBlock ∧
    ((Value.slice A l.length c).ownBlock = v.ownBlock ∨ ∃ g, (Value.slice A l.length c).ownBlock = some g ∧ w.heap.size ≤ g)

set_option maxRecDepth 100000 in
set_option maxHeartbeats 8000000 in
theorem add_any (l : List Gen) (B : Option Addr) (d base : Nat) (S : Nat → Prop) (k : Int) (t : ByteArray) (n : Name) (A : Option Addr) (c : Nat) (w : World) (hmx : Mx w) (hln : l.length ≤ 1000000) (hbase : base ≤ w.heap.size) (hl : SmallGs l) (ht : t.size ≤ 100000) (hn : SmallN n) (hcp : CpN n)
    (hown : Own RGen 3 32 w base S (.slice B l.length d) l) (hS : ∀ j, S j → j < w.heap.size) (h1 : Sl RRdn 1 w (Lt w.heap.size) n [.slice A n.length c]) :
    Calls Tryz.prog 48 #[.slice B l.length d, .agg #[.int .i64 k, .string t, .slice A n.length c]] w (AddPost w base S (.slice B l.length d) (addG l (k, t.data.toList, n))) := by
  have h2 : Sl RGen 3 w (Lt w.heap.size) l [.slice B l.length d] := (Sl.ok RGen.ok).mono (hown.sl RGen.ok) (fun _ _ => rfl) (fun j hj => by
    rcases hj with hj | hj
    · exact hS j hj
    · exact hj.2)
  obtain ⟨-, hlc, hlm⟩ := h2.len_
  unfold maxLen at hlm
  have HMX := hide hmx
  have K1 := hide h1
  have K2 := hide h2
  have HL := hide hl
  have HN := hide hn
  have HCP := hide hcp
  have HOWN := hide hown
  have HS := hide hS
  obtain ⟨gg, hgg⟩ : ∃ gg : Gen, gg = (k, t.data.toList, n) := ⟨_, rfl⟩
  have HGG := hide hgg
  clear hmx h1 h2 hl hn hcp hown hS hgg
  go_enter Tryz.func48, Tryz.ntmps48
  go_wp2_with fail
  obtain ⟨wa, hwa⟩ : ∃ wa, wa = w.alloc (.cells #[.int .i64 k, .string t, .slice A n.length c] 32) := ⟨_, rfl⟩
  have a0 : wa.cell? ⟨w.heap.size, 0, none⟩ = some (.int .i64 k) := by rw [hwa, World.cell?_alloc_new]; rfl
  have a1 : wa.cell? ⟨w.heap.size, 1, none⟩ = some (.string t) := by rw [hwa, World.cell?_alloc_new]; rfl
  have a2 : wa.cell? ⟨w.heap.size, 2, none⟩ = some (.slice A n.length c) := by rw [hwa, World.cell?_alloc_new]; rfl
  have hba : Below w.heap.size w wa := by rw [hwa]; exact (Below.refl _ _).alloc (Nat.le_refl _) _
  rw [← hwa]
  have A0 := hide a0
  have A1 := hide a1
  have A2 := hide a2
  have HBA := hide hba
  clear hwa a0 a1 a2 hba
  go_loopw [9] (fun i wr => ∃ j : Nat, j ≤ l.length ∧ i = .int .i64 j ∧ Below wa.heap.size wa wr ∧ Hid (l.any (fun x => sameG x gg) = (l.drop j).any (fun x => sameG x gg))) (fun i _ => l.length - (intOf i).toNat)
  case atStart => exact ⟨0, Nat.zero_le _, rfl, Below.refl _ _, rfl⟩
  case round =>
    obtain ⟨j, hj, rfl, hb, H⟩ := hrel
    have hbw := HBA.out.trans (hb.mono HBA.out.size)
    have HBW := hide hbw
    by_cases hlt : j < l.length
    · obtain ⟨b2, o2, t2, A2', c2, hB, hbS, ht2, d0, d1, d2, hsl⟩ := K2.out.genAt hlt
      subst hB
      have hbS' : b2 < w.heap.size := hbS
      obtain ⟨hsb1, hsb2⟩ := HL.out l[j] (List.getElem_mem hlt)
      have hts2 := size_of_list ht2 hsb1
      obtain ⟨kb, hkb⟩ : ∃ kb, l[j].1 = kb := ⟨_, rfl⟩
      obtain ⟨nb, hnb⟩ : ∃ nb, l[j].2.2 = nb := ⟨_, rfl⟩
      have hbe : l[j] = (kb, t2.data.toList, nb) := by rw [← hkb, ← hnb, ht2]
      obtain ⟨p, hp⟩ : ∃ p, sameG (kb, t2.data.toList, nb) (k, t.data.toList, n) = p := ⟨_, rfl⟩
      have HX2 := hide (show l.any (fun x => sameG x gg) = (p || (l.drop (j + 1)).any (fun x => sameG x gg)) by rw [H.out, List.drop_eq_getElem_cons hlt, List.any_cons, hbe, HGG.out, hp])
      have HP := hide hp
      rw [hkb] at d0
      rw [hnb] at d2 hsl hsb2
      have e0 := cell_grows hb _ _ A0.out
      have e1 := cell_grows hb _ _ A1.out
      have e2 := cell_grows hb _ _ A2.out
      have f0 := (hbw.cell (p := ⟨b2, o2 + j * 3, none⟩) hbS').trans d0
      have f1 := (hbw.cell (p := ⟨b2, o2 + j * 3 + 1, none⟩) hbS').trans d1
      have f2 := (hbw.cell (p := ⟨b2, o2 + j * 3 + 2, none⟩) hbS').trans d2
      have hgl : w.heap.size < wr.heap.size := World.block_lt_of_cell? wr ⟨w.heap.size, 0, none⟩ e0
      have q0 : ∀ ob, (wr.alloc ob).cell? ⟨w.heap.size, 0, none⟩ = some (.int .i64 k) := fun ob => (World.cell?_alloc_lt wr ob ⟨w.heap.size, 0, none⟩ hgl).trans e0
      have q1 : ∀ ob, (wr.alloc ob).cell? ⟨w.heap.size, 1, none⟩ = some (.string t) := fun ob => (World.cell?_alloc_lt wr ob ⟨w.heap.size, 1, none⟩ hgl).trans e1
      have q2 : ∀ ob, (wr.alloc ob).cell? ⟨w.heap.size, 2, none⟩ = some (.slice A n.length c) := fun ob => (World.cell?_alloc_lt wr ob ⟨w.heap.size, 2, none⟩ hgl).trans e2
      have hbc : Below wr.heap.size wr (wr.alloc (.cells #[.int .i64 kb, .string t2, .slice A2' nb.length c2] 32)) := (Below.refl _ _).alloc (Nat.le_refl _) _
      have hbwc := hbw.trans (hbc.mono hbw.size)
      have S1 := hide ((Sl.ok RRdn.ok).below K1.out hbwc)
      have S2 := hide ((Sl.ok RRdn.ok).below hsl hbwc)
      have HM := hide (HMX.out.below hbwc)
      have HSB := hide hsb2
      have HBC := hide (hb.trans (hbc.mono hb.size))
      clear hb hbw d0 d1 d2 hsl hsb2 hkb hnb hbe hp e0 e1 e2 ht2 hsb1 hbc hbwc H
      go_wp2_with fail
      refine (gSame_any kb k t2 t nb n A2' A c2 c (by omega) (by omega) HSB.out HN.out p HP.out _ HM.out S2.out S1.out).mono ?_
      rintro e w5 ⟨rfl, hb5⟩
      have HB5 := hide (HBC.out.trans (hb5.mono HBC.out.size))
      clear hb5 q0 q1 q2 f0 f1 f2
      cases p
      · have HY := hide (show l.any (fun x => sameG x gg) = (l.drop (j + 1)).any (fun x => sameG x gg) by rw [HX2.out, Bool.false_or])
        go_wp2_with fail
        go_roundw
        case rel => exact ⟨j + 1, by omega, by go_num, HB5.out, HY⟩
        case measure => simp [intOf]; omega
      · have HY2 := hide (show addG l (k, t.data.toList, n) = l by rw [← HGG.out, addG, HX2.out, Bool.true_or, if_pos rfl])
        have HW5 := hide (HBA.out.trans (HB5.out.mono HBA.out.size))
        go_wp2_with fail
        go_ret
        unfold AddPost
        rw [HY2.out]
        exact ⟨some ⟨b2, o2, none⟩, d, S, rfl, HOWN.out.below RGen.ok HS.out HW5.out, fun j hj => .inl hj, ⟨HW5.out.os, HW5.out.tape, HW5.out.output, HW5.out.size, fun k hk _ => HW5.out.block k hk⟩, .inl rfl⟩
    · have hY : addG l gg = l ++ [gg] := by rw [addG, H.out, List.drop_of_length_le (by omega)]; rfl
      have HY2 := hide (show addG l (k, t.data.toList, n) = l ++ [(k, t.data.toList, n)] by rw [← HGG.out]; exact hY)
      have e0 := cell_grows hb _ _ A0.out
      have e1 := cell_grows hb _ _ A1.out
      have e2 := cell_grows hb _ _ A2.out
      have CL := hide (cloneName_any k t n A c HCP.out wr ((Sl.ok RRdn.ok).below K1.out hbw))
      clear hb hbw hY H
      go_wp2_with fail
      refine CL.out.mono ?_
      rintro e w5 ⟨A5, c5, rfl, hsl5, hb5⟩
      obtain ⟨hc1, hc2⟩ := gen_step2 (k := k) (t := t) HOWN.out HS.out HBW.out hb5 hsl5
      have hz5 := hb5.size
      have hzw := HBW.out.size
      have HW5 := hide (HBW.out.trans (hb5.mono HBW.out.size))
      have hc3 : ∀ (ob : Obj) (b : Nat), (S b ∨ (w.heap.size ≤ b ∧ b < w5.heap.size)) → b < (w5.alloc ob).heap.size := fun ob b hb => by
        rw [World.size_alloc]
        rcases hb with hb | hb
        · have := HS.out b hb
          omega
        · omega
      clear hsl5 hb5 e0 e1 e2
      go_wp2_with (first
        | (at_builtin; refine wpList_app RGen.ok _ rfl (.tmp 18) (.tmp 21) 25 rfl base 32 (.agg #[.int .i64 0, .string ⟨#[]⟩, .slice none 0 0]) 48 Tryz.underlying25 info_gen rfl (by decide) _ _ l rfl hc1 ⟨_, 0, none⟩ 1 1 [(k, t.data.toList, n)] rfl rfl hc2 (hc3 _) (by simp; omega) (by simp [maxLen]; omega) (by rw [World.size_alloc]; omega) ?_; intro v6 w6 hown6 hgr6 hb6 hat6)
        | fail)
      go_ret
      obtain ⟨A6, c6, hv6⟩ := (hown6.sl RGen.ok).shape
      subst hv6
      unfold AddPost
      rw [HY2.out]
      have hg6 := hgr6.size
      rw [World.size_alloc] at hg6
      refine ⟨A6, c6, _, rfl, hown6, fun j hj => ?_, ⟨hgr6.os.trans HW5.out.os, hgr6.tape.trans HW5.out.tape, hgr6.output.trans HW5.out.output, by omega, fun k hk hne => (hgr6.block k (by rw [World.size_alloc]; omega) hne).trans ((Below.heap_alloc _ _ k (by omega)).trans (HW5.out.block k hk))⟩, ?_⟩
      · rcases hj with hj | hj
        · exact .inl hj
        · exact .inr ⟨hj.1, by have := hj.2; omega⟩
      · rcases hat6 with h | h
        · exact .inl h
        · exact .inr ⟨_, h, by rw [World.size_alloc]; omega⟩

theorem Sl.intAt {w : World} {S : Nat → Prop} {A : Option Addr} {n c : Nat} {l : List Int} (h : Sl RInt 1 w S l [.slice A n c]) {i : Nat} (hi : i < l.length) :
    ∃ b off : Nat, A = some ⟨b, off, none⟩ ∧ S b ∧ w.cell? ⟨b, off + i, none⟩ = some (.int .i64 l[i]) := by
  obtain ⟨b, off, xs, hA, hb, hr, hh⟩ := h.at_ hi
  have hr' : xs = intC l[i] := hr
  subst hr'
  refine ⟨b, off, hA, hb, ?_⟩
  have := hh 0 _ rfl
  rwa [Nat.mul_one, Nat.add_zero] at this

set_option maxRecDepth 100000 in
set_option maxHeartbeats 8000000 in
theorem permitsR_any (g : Gen) (t : ByteArray) (A : Option Addr) (c : Nat) (lim : List Int) (per ex : List Gen) (B1 B2 B3 : Option Addr) (d1 d2 d3 : Nat) (ht : t.data.toList = g.2.1) (hg : SmallG g) (hl2 : SmallGs per) (hl3 : SmallGs ex) (q : Bool) (hq : permitsR lim per ex g = q) (w : World) (hmx : Mx w)
    (h0 : Sl RRdn 1 w (Lt w.heap.size) g.2.2 [.slice A g.2.2.length c]) (h1 : Sl RInt 1 w (Lt w.heap.size) lim [.slice B1 lim.length d1]) (h2 : Sl RGen 3 w (Lt w.heap.size) per [.slice B2 per.length d2]) (h3 : Sl RGen 3 w (Lt w.heap.size) ex [.slice B3 ex.length d3]) :
    Calls Tryz.prog 28 #[.agg #[.slice B1 lim.length d1, .slice B2 per.length d2, .slice B3 ex.length d3], .agg #[.int .i64 g.1, .string t, .slice A g.2.2.length c]] w fun e w' => e = .returned (.bool q) ∧ Below w.heap.size w w' := by
  obtain ⟨-, hlc, hlm⟩ := h1.len_
  unfold maxLen at hlm
  have HMX := hide hmx
  have K0 := hide h0
  have K1 := hide h1
  have K2 := hide h2
  have K3 := hide h3
  obtain ⟨pe, hpe⟩ : ∃ p, insideG g ex = p := ⟨_, rfl⟩
  obtain ⟨pp, hpp⟩ : ∃ p, insideG g per = p := ⟨_, rfl⟩
  have IE := hide (fun W hm hn hs => inside_any g t A c ex B3 d3 ht hg hl3 pe hpe W hm hn hs)
  have IP := hide (fun W hm hn hs => inside_any g t A c per B2 d2 ht hg hl2 pp hpp W hm hn hs)
  have HQ := hide (show (!pe && (if (lim.drop 0).any (fun k => k == g.1) then pp else true)) = q by rw [← hq, permitsR, hpe, hpp]; rfl)
  obtain ⟨wa, hwa⟩ : ∃ wa, wa = (w.alloc (.cells #[.slice B1 lim.length d1, .slice B2 per.length d2, .slice B3 ex.length d3] 53)).alloc (.cells #[.int .i64 g.1, .string t, .slice A g.2.2.length c] 32) := ⟨_, rfl⟩
  have hz : (w.alloc (.cells #[.slice B1 lim.length d1, .slice B2 per.length d2, .slice B3 ex.length d3] 53)).heap.size = w.heap.size + 1 := by simp
  have s0 : wa.cell? ⟨w.heap.size, 0, none⟩ = some (.slice B1 lim.length d1) := by rw [hwa, World.cell?_alloc_lt _ _ _ (by simp), World.cell?_alloc_new]; rfl
  have s1 : wa.cell? ⟨w.heap.size, 1, none⟩ = some (.slice B2 per.length d2) := by rw [hwa, World.cell?_alloc_lt _ _ _ (by simp), World.cell?_alloc_new]; rfl
  have s2 : wa.cell? ⟨w.heap.size, 2, none⟩ = some (.slice B3 ex.length d3) := by rw [hwa, World.cell?_alloc_lt _ _ _ (by simp), World.cell?_alloc_new]; rfl
  have a0 : wa.cell? ⟨w.heap.size + 1, 0, none⟩ = some (.int .i64 g.1) := by rw [hwa, ← hz, World.cell?_alloc_new]; rfl
  have a1 : wa.cell? ⟨w.heap.size + 1, 1, none⟩ = some (.string t) := by rw [hwa, ← hz, World.cell?_alloc_new]; rfl
  have a2 : wa.cell? ⟨w.heap.size + 1, 2, none⟩ = some (.slice A g.2.2.length c) := by rw [hwa, ← hz, World.cell?_alloc_new]; rfl
  have hba : Below w.heap.size w wa := by rw [hwa]; exact ((Below.refl _ _).alloc (Nat.le_refl _) _).alloc (by simp) _
  obtain ⟨gg, hgg⟩ : ∃ gg, gg = w.heap.size + 1 := ⟨_, rfl⟩
  rw [← hgg] at a0 a1 a2
  have HGG := hide hgg
  have HWA := hide hwa
  have HBA := hide hba
  have HMA := hide (HMX.out.below hba)
  have N0 := hide ((Sl.ok RRdn.ok).below h0 hba)
  have N2 := hide ((Sl.ok RGen.ok).below h2 hba)
  have N3 := hide ((Sl.ok RGen.ok).below h3 hba)
  clear hmx h0 h1 h2 h3 hpe hpp hl2 hl3 hq hg ht hwa hz hgg hba
  go_enter Tryz.func28, Tryz.ntmps28
  go_upto_region 1 with (fail)
  rw [← HWA.out, ← HGG.out]
  go_wp2_with fail
  refine (IE.out _ HMA.out N0.out N3.out).mono ?_
  rintro e w5 ⟨rfl, hb5⟩
  have HB5 := hide (HBA.out.trans (hb5.mono HBA.out.size))
  cases pe
  · have HQ2 := hide (show (if (lim.drop 0).any (fun k => k == g.1) then pp else true) = q from HQ.out)
    have a0 := cell_grows hb5 _ _ a0
    have a1 := cell_grows hb5 _ _ a1
    have a2 := cell_grows hb5 _ _ a2
    have s0 := cell_grows hb5 _ _ s0
    have s1 := cell_grows hb5 _ _ s1
    have N0 := hide ((Sl.ok RRdn.ok).below N0.out hb5)
    have N2 := hide ((Sl.ok RGen.ok).below N2.out hb5)
    have M5 := hide (HMA.out.below hb5)
    clear hb5 s2
    go_wp2_with fail
    go_loopw [14] (fun i wr => ∃ k : Nat, k ≤ lim.length ∧ i = .int .i64 k ∧ w5 = wr ∧ Hid ((if (lim.drop k).any (fun k => k == g.1) then pp else true) = q)) (fun i _ => lim.length - (intOf i).toNat)
    case atStart => exact ⟨0, Nat.zero_le _, rfl, rfl, HQ2⟩
    case round =>
      obtain ⟨k, hk, rfl, rfl, H⟩ := hrel
      by_cases hlt : k < lim.length
      · obtain ⟨b2, o2, hB, hbS, d0⟩ := K1.out.intAt hlt
        subst hB
        have hbS' : b2 < w.heap.size := hbS
        obtain ⟨kb, hkb⟩ : ∃ kb, lim[k] = kb := ⟨_, rfl⟩
        obtain ⟨p, hp⟩ : ∃ p, (kb == g.1) = p := ⟨_, rfl⟩
        have HX := hide (show (if (p || (lim.drop (k + 1)).any (fun k => k == g.1)) = true then pp else true) = q by rw [← H.out, List.drop_eq_getElem_cons hlt, List.any_cons, hkb, hp])
        rw [hkb] at d0
        have f0 := (HB5.out.cell (p := ⟨b2, o2 + k, none⟩) hbS').trans d0
        clear d0 hkb H
        cases p
        · have HY := hide (show (if (lim.drop (k + 1)).any (fun k => k == g.1) then pp else true) = q from HX.out)
          go_wp2_with fail
          go_roundw
          case rel => exact ⟨k + 1, by omega, by go_num, trivial, HY⟩
          case measure => simp [intOf]; omega
        · have HY := hide (show pp = q from HX.out)
          go_wp2_with fail
          refine (IP.out _ M5.out N0.out N2.out).mono ?_
          rintro e w6 ⟨rfl, hb6⟩
          have HB6 := hide (HB5.out.trans (hb6.mono HB5.out.size))
          clear hb6
          go_wp2_with fail
          go_ret
          exact ⟨ret_bool HY.out, HB6.out⟩
      · have HY := hide (show true = q by rw [← H.out, List.drop_of_length_le (by omega)]; rfl)
        clear H
        go_wp2_with fail
        go_ret
        exact ⟨ret_bool HY.out, HB5.out⟩
  · have HY := hide (show false = q from HQ.out)
    clear hb5
    go_wp2_with fail
    go_ret
    exact ⟨ret_bool HY.out, HB5.out⟩
end Go.Proofs.YtodapmkdmkhhfaaGreatDoor

/- A number set into a row of numbers: 'append(l[:i:i], append([]int{k}, l[i:]...)...)'. -/
namespace Go.Proofs.YtodapmkdmkhhfaaGreatDoor
open Go.RowKit

theorem posK_lt : ∀ (l : List Int) (k : Int) (r : Nat), r < posK l k → ∃ h : r < l.length, l[r] < k
  | [], k, r, h => by simp [posK] at h
  | x :: l, k, r, h => by
    unfold posK at h
    by_cases hx : x < k
    · rw [List.takeWhile_cons_of_pos (by simpa using hx)] at h
      match r, h with
      | 0, _ => exact ⟨by simp, hx⟩
      | r + 1, h =>
        obtain ⟨h1, h2⟩ := posK_lt l k r (by unfold posK; simpa using h)
        exact ⟨by simpa using h1, by simpa using h2⟩
    · rw [List.takeWhile_cons_of_neg (by simpa using hx)] at h
      simp at h
theorem posK_at : ∀ (l : List Int) (k : Int) (h : posK l k < l.length), k ≤ l[posK l k]
  | [], k, h => by simp at h
  | x :: l, k, h => by
    by_cases hx : x < k
    · have hp : posK (x :: l) k = posK l k + 1 := by
        unfold posK
        rw [List.takeWhile_cons_of_pos (by simpa using hx)]
        simp
      have h1 : posK l k < l.length := by rw [hp] at h; simpa using h
      have h2 := posK_at l k h1
      simp only [hp, List.getElem_cons_succ]
      exact h2
    · have hp : posK (x :: l) k = 0 := by
        unfold posK
        rw [List.takeWhile_cons_of_neg (by simpa using hx)]
        simp
      simp only [hp, List.getElem_cons_zero]
      omega
theorem insK_new {l : List Int} {k : Int} (h : posK l k = l.length ∨ l.getD (posK l k) 0 ≠ k) : insK l k = l.take (posK l k) ++ k :: l.drop (posK l k) := if_pos h
theorem insK_old {l : List Int} {k : Int} (h : ¬ (posK l k = l.length ∨ l.getD (posK l k) 0 ≠ k)) : insK l k = l := if_neg h
theorem insK_len (l : List Int) (k : Int) : (insK l k).length ≤ l.length + 1 := by
  unfold insK
  split
  · have := posK_le l k
    simp; omega
  · omega
theorem limFold_len : ∀ (l : List Gen) (acc : List Int), (l.foldl limStep acc).length ≤ acc.length + l.length
  | [], acc => by simp
  | b :: l, acc => by
    have h := limFold_len l (limStep acc b)
    have h2 : (limStep acc b).length ≤ acc.length + 1 := by
      unfold limStep
      split
      · exact insK_len _ _
      · omega
    simp only [List.foldl_cons, List.length_cons]
    omega
theorem limAll_len : ∀ (st : List Sub) (acc : List Int), (∀ s ∈ st, s.1.length ≤ 4) → (st.foldl (fun l s => s.1.foldl limStep l) acc).length ≤ acc.length + 4 * st.length
  | [], acc, _ => by simp
  | s :: st, acc, h => by
    have h1 := limFold_len s.1 acc
    have h2 := h s (by simp)
    have h3 := limAll_len st (s.1.foldl limStep acc) (fun x hx => h x (by simp [hx]))
    simp only [List.foldl_cons, List.length_cons]
    omega
theorem addG_len (l : List Gen) (g : Gen) : (addG l g).length ≤ l.length + 1 := by
  unfold addG
  split
  · omega
  · simp
theorem exFold_len : ∀ (l acc : List Gen), (l.foldl addG acc).length ≤ acc.length + l.length
  | [], acc => by simp
  | b :: l, acc => by
    have h := exFold_len l (addG acc b)
    have h2 := addG_len acc b
    simp only [List.foldl_cons, List.length_cons]
    omega
theorem exFold_good : ∀ (l acc : List Gen), GoodBs acc → GoodBs l → GoodBs (l.foldl addG acc)
  | [], _, ha, _ => ha
  | b :: l, acc, ha, hl => exFold_good l (addG acc b) (addG_good ha (hl b (by simp))) (fun x hx => hl x (by simp [hx]))
theorem exAll_both : ∀ (st : List Sub) (acc : List Gen), GoodBs acc → (∀ s ∈ st, s.2.length ≤ 4 ∧ GoodBs s.2) → GoodBs (st.foldl (fun l s => s.2.foldl addG l) acc) ∧ (st.foldl (fun l s => s.2.foldl addG l) acc).length ≤ acc.length + 4 * st.length
  | [], acc, ha, _ => ⟨ha, by simp⟩
  | s :: st, acc, ha, h => by
    obtain ⟨h1, h2⟩ := h s (by simp)
    have h3 := exFold_len s.2 acc
    obtain ⟨h4, h5⟩ := exAll_both st (s.2.foldl addG acc) (exFold_good s.2 acc ha h2) (fun x hx => h x (by simp [hx]))
    refine ⟨h4, ?_⟩
    simp only [List.foldl_cons, List.length_cons]
    omega
theorem GoodBs.small {l : List Gen} (h : GoodBs l) : SmallGs l := fun g hg => (h g hg).small

/-- a row of one number that the call has just built -/
theorem own_one {e : TypeId} {w : World} {base : Nat} (hbase : base ≤ w.heap.size) (k : Int) : Own RInt 1 e (w.alloc (.cells #[.int .i64 k] e)) base No (.slice (some ⟨w.heap.size, 0, none⟩) 1 1) [k] := by
  refine ⟨[.int .i64 k], ⟨rfl, .inr ⟨w.heap.size, 1, #[.int .i64 k], rfl, hbase, heap_alloc_new w _, Nat.le_refl _, by simp [maxLen], rfl, rfl⟩⟩, fun g _ hg => hg.elim, fun i y hy => ?_⟩
  match i, hy with
  | 0, hy =>
    simp at hy; subst hy
    exact ⟨[.int .i64 k], rfl, fun j u hu => by simpa using hu⟩

/-- the rest of a row, from number i on -/
theorem rest_src {T : TypeId} {w : World} {base : Nat} {L : Option Addr} {cl i : Nat} {l : List Int} (h : Own RInt 1 T w base No (.slice L l.length cl) l) (hi : i ≤ l.length) :
    Src RInt 1 w No (.slice (if cl = i then L else L.map (·.add (i * 1))) (l.length - i) (cl - i)) (l.drop i) := by
  have h' := h
  obtain ⟨xs, ⟨hl, h1⟩, h2, h3⟩ := h
  rcases h1 with ⟨hv, hn⟩ | ⟨g, cap, cur, hv, hb, hg, hnc, r⟩
  · simp only [Value.slice.injEq] at hv
    obtain ⟨rfl, -, rfl⟩ := hv
    have hi0 : i = 0 := by omega
    subst hi0
    exact .inl ⟨by simp [hn], by rw [List.eq_nil_of_length_eq_zero hn]; rfl⟩
  · cases hv
    by_cases hc : cl = i
    · rw [if_pos hc]
      have : l.drop i = [] := List.drop_of_length_le (by omega)
      rw [this]
      exact .inr ⟨⟨g, 0, none⟩, l.length - i, cl - i, rfl, by simp; omega, fun j y hy => by simp at hy⟩
    · rw [if_neg hc]
      refine .inr ⟨⟨g, i, none⟩, l.length - i, cl - i, by simp [Addr.add_lit], by simp, fun j y hy => ?_⟩
      rw [List.getElem?_drop] at hy
      obtain ⟨hj, rfl⟩ := List.getElem?_eq_some_iff.1 hy
      obtain ⟨g', cap', ys, hv', _, _, _, _, hr, hcell, _⟩ := h'.at_ hj
      cases hv'
      have hr' : ys = intC l[i + j] := hr
      subst hr'
      refine ⟨_, rfl, fun u v hu => ?_⟩
      have := hcell u v hu
      rw [Addr.add_lit]
      rw [show i + (j * 1 + u) = (i + j) * 1 + u by omega]
      simpa using this
/-- the beginning of a row, without room behind it: what 'append' makes of it -/
def Pre (w : World) (L : Option Addr) (l : List Int) : Prop := (L = none ∧ l = []) ∨ ∃ ad, L = some ad ∧ ∀ i y, l[i]? = some y → w.cell? (ad.add i) = some (.int .i64 y)
theorem pre_of {T : TypeId} {w : World} {base : Nat} {L : Option Addr} {cl i : Nat} {l : List Int} (h : Own RInt 1 T w base No (.slice L l.length cl) l) (_hi : i ≤ l.length) : Pre w L (l.take i) := by
  have h' := h
  obtain ⟨xs, ⟨hl, h1⟩, h2, h3⟩ := h
  rcases h1 with ⟨hv, hn⟩ | ⟨g, cap, cur, hv, hb, hg, hnc, r⟩
  · simp only [Value.slice.injEq] at hv
    obtain ⟨rfl, -, rfl⟩ := hv
    exact .inl ⟨rfl, by rw [List.eq_nil_of_length_eq_zero hn]; simp⟩
  · cases hv
    refine .inr ⟨_, rfl, fun j y hy => ?_⟩
    rw [List.getElem?_take] at hy
    split at hy
    · obtain ⟨hj, rfl⟩ := List.getElem?_eq_some_iff.1 hy
      obtain ⟨g', cap', ys, hv', _, _, _, _, hr, hcell, _⟩ := h'.at_ hj
      cases hv'
      have hr' : ys = intC l[j] := hr
      subst hr'
      rw [Addr.add_lit, Nat.zero_add]
      simpa using hcell 0 _ rfl
    · cases hy
section
variable {P : Program} {w : World} {ops : Array Oper} {o : Oper} {a : Act} {Q : Exit → Act → World → Prop} {K : Act → World → Prop}
theorem run_ins (w : World) (ty t : TypeId) (e : TypeId) (ht : P.underlying t = some (.slice e)) (hi : (P.info? e).map (fun i => (i.zero, i.size, i.bytes)) = some (some (.int .i64 0), 1, 8))
    (L : Option Addr) (l : List Int) (hL : Pre w L l) (base : Nat) (v : Value) (ys : List Int) (hy : 0 < ys.length) (hown : Own RInt 1 e w base No v ys) (h63 : l.length + ys.length ≤ 1000000) :
    ∃ v' w', (Builtin.append_ #[t, t] ty #[.slice L l.length l.length, v]).run P w = .ok v' w' ∧ Own RInt 1 e w' w.heap.size No v' (l ++ ys) ∧ Below w.heap.size w w' := by
  obtain ⟨xs, ⟨hl, h1⟩, h2, h3⟩ := hown
  have hown' : Own RInt 1 e w base No v ys := ⟨xs, ⟨hl, h1⟩, h2, h3⟩
  rcases h1 with ⟨_, hn⟩ | ⟨g, cap, cur, rfl, hb, hg, hnc, r⟩
  · omega
  have hcells : ∀ i y, ys[i]? = some y → w.cell? ((⟨g, 0, none⟩ : Addr).add i) = some (.int .i64 y) := fun i y hy => by
    obtain ⟨hj, rfl⟩ := List.getElem?_eq_some_iff.1 hy
    obtain ⟨g', cap', zs, hv', _, _, _, _, hr, hcell, _⟩ := hown'.at_ hj
    cases hv'
    have hr' : zs = intC ys[i] := hr
    subst hr'
    rw [Addr.add_lit, Nat.zero_add]
    simpa using hcell 0 _ rfl
  rcases hL with ⟨rfl, rfl⟩ | ⟨ad, rfl, hold⟩
  · obtain ⟨v', w', hr, ho, hgr, hbl, _⟩ := run_app (P := P) RInt.ok w ty t w.heap.size e (.int .i64 0) 8 ht hi rfl (by decide) No (.slice none 0 0) [] (Own.nil _ _ _ _ _ _) ⟨g, 0, none⟩ ys.length cap ys rfl
      (fun i y hy => ⟨_, rfl, fun j u hu => by
        match j, hu with
        | 0, hu =>
          simp [intC] at hu; subst hu
          rw [Nat.mul_one, Nat.add_zero]
          exact hcells i y hy⟩) (no_lt _) (by simp at h63 ⊢; omega) (by simp [maxLen] at h63 ⊢; omega) (Nat.le_refl _)
    exact ⟨v', w', hr, ho, hbl⟩
  · obtain ⟨i0, hi0, hz0, hz1, hz2⟩ := info_parts hi
    obtain ⟨v', w', hr, ho, hgr⟩ := run_append_arg_grows (P := P) w t ty e i0 (.int .i64 0) 1 8 ht hi0 hz0 hz1 hz2 rfl (by decide) ad l.length l.length (l.map (Value.int .i64)) (by simp)
      (fun j u hu => by
        rw [List.getElem?_map] at hu
        obtain ⟨y, hy, rfl⟩ := Option.map_eq_some_iff.1 hu
        exact hold j y hy) ⟨g, 0, none⟩ ys.length cap (ys.map (Value.int .i64)) (by simp)
      (fun j u hu => by
        rw [List.getElem?_map] at hu
        obtain ⟨y, hy, rfl⟩ := Option.map_eq_some_iff.1 hu
        exact hcells j y hy) (by omega) (by simp [maxLen]; omega) (by omega)
    refine ⟨v', w', hr, ⟨_, by rw [List.length_append]; exact ho, fun _ _ hk => hk, fun i x hx => ⟨_, rfl, fun j u hu => ?_⟩⟩, ⟨hgr.os, hgr.tape, hgr.output, hgr.size, fun k hk => hgr.block k hk (by simp)⟩⟩
    match j, hu with
    | 0, hu =>
      simp [intC] at hu; subst hu
      rw [Nat.mul_one, Nat.add_zero, ← List.map_append, List.getElem?_map, hx]
      rfl
theorem step_ins {E : Prop} (w : World) (hgd : o.guard = none) (s x : Operand) (t : TypeId) (ho : o.op = .call { callee := .builtin .append, args := #[s, x], argTypes := #[t, t] })
    (e : TypeId) (ht : P.underlying t = some (.slice e)) (hi : (P.info? e).map (fun i => (i.zero, i.size, i.bytes)) = some (some (.int .i64 0), 1, 8))
    (L : Option Addr) (n : Nat) (l : List Int) (hn : l.length = n) (hs : a.eval s = .slice L n n) (hL : Pre w L l) (base : Nat) (v : Value) (hx : a.eval x = v) (ys : List Int) (hy : 0 < ys.length) (hown : Own RInt 1 e w base No v ys) (h63 : l.length + ys.length ≤ 1000000)
    (h : ∀ v' w', Own RInt 1 e w' w.heap.size No v' (l ++ ys) → Below w.heap.size w w' → K (a.put o.dst v') w') :
    if Region.wanted o (yielded ops a.tmps) = true then Oper.wp P o a w K Q else E := by
  subst hn
  have hw : Region.wanted o (yielded ops a.tmps) = true := by simp [Region.wanted, hgd]
  rw [if_pos hw]
  obtain ⟨v', w', hr, h2, h3⟩ := run_ins (P := P) w o.type t e ht hi L l hL base v ys hy hown h63
  unfold Oper.wp execOp
  simp only [ho, resolve, invoke, builtin, Sem.run_bind, Sem.run_pure, Result.andThen_ok, List.map_toArray, List.map_cons, List.map_nil, hs, hx, hr]
  exact h v' w' h2 h3
end
end Go.Proofs.YtodapmkdmkhhfaaGreatDoor
