/- The law SubtreePermits: sizes that come in; two equal states. -/
import Derived.Test.YtodapmkdmkhhfaaGreatDoorRefL
import Derived.Test.YtodapmkdmkhhfaaGreatDoorRefQ
import Derived.Test.YtodapmkdmkhhfaaGreatDoorGn5
import Derived.Test.YtodapmkdmkhhfaaGreatDoorLibI
namespace Go.Proofs.YtodapmkdmkhhfaaGreatDoor
open Go.RowKit

def shortS (s : Sub) : Bool := shortGs s.1 && shortGs s.2
theorem shortN_cp {n : Name} (h : shortN n = true) : CpN n := by
  simp only [shortN, shortR, Bool.and_eq_true, decide_eq_true_eq, List.all_eq_true] at h
  exact ⟨by omega, fun r hr => by have := (h.2 r hr).1; omega⟩
theorem shortGs_cp {l : List Gen} (h : shortGs l = true) : CpL l := by
  simp only [shortGs, Bool.and_eq_true, decide_eq_true_eq, List.all_eq_true] at h
  refine ⟨by omega, fun g hg => ?_⟩
  have h1 := h.2 g hg
  simp only [shortG, Bool.and_eq_true, decide_eq_true_eq] at h1
  exact shortN_cp h1.2
theorem shortS_cp {s : Sub} (h : shortS s = true) : CpS s := by
  simp only [shortS, Bool.and_eq_true] at h
  exact ⟨shortGs_cp h.1, shortGs_cp h.2⟩
theorem shortS_small {s : Sub} (h : shortS s = true) : SmallGs s.1 ∧ SmallGs s.2 := by
  simp only [shortS, Bool.and_eq_true] at h
  exact ⟨shortGs_small h.1, shortGs_small h.2⟩

set_option maxRecDepth 100000 in
set_option maxHeartbeats 4000000 in
theorem short_any (p x : List Gen) (A B : Option Addr) (c d : Nat) (q : Bool) (hq : shortS (p, x) = q) (w : World) (h1 : Sl RGen 3 w (Lt w.heap.size) p [.slice A p.length c]) (h2 : Sl RGen 3 w (Lt w.heap.size) x [.slice B x.length d]) :
    Calls Tryz.prog 8 #[.agg #[.slice A p.length c, .slice B x.length d]] w fun e w' => e = .returned (.bool q) ∧ Below w.heap.size w w' := by
  obtain ⟨q1, hq1⟩ : ∃ q, shortGs p = q := ⟨_, rfl⟩
  obtain ⟨q2, hq2⟩ : ∃ q, shortGs x = q := ⟨_, rfl⟩
  have HQ := hide (show (q1 && q2) = q by rw [← hq, shortS, hq1, hq2])
  obtain ⟨wa, hwa⟩ : ∃ wa, wa = w.alloc (.cells #[.slice A p.length c, .slice B x.length d] 27) := ⟨_, rfl⟩
  have a0 : wa.cell? ⟨w.heap.size, 0, none⟩ = some (.slice A p.length c) := by rw [hwa, World.cell?_alloc_new]; rfl
  have a1 : wa.cell? ⟨w.heap.size, 1, none⟩ = some (.slice B x.length d) := by rw [hwa, World.cell?_alloc_new]; rfl
  have hba : Below w.heap.size w wa := by rw [hwa]; exact (Below.refl _ _).alloc (Nat.le_refl _) _
  have HWA := hide hwa
  have HBA := hide hba
  have C1 := hide (ShortNames_any p A c q1 hq1 wa ((Sl.ok RGen.ok).below h1 hba))
  have C2 := hide (fun W (h : Below wa.heap.size wa W) => ShortNames_any x B d q2 hq2 W ((Sl.ok RGen.ok).below h2 (hba.trans (h.mono hba.size))))
  clear hq hq1 hq2 hwa hba h1 h2
  go_enter Tryz.func8, Tryz.ntmps8
  go_upto_region 1 with (fail)
  rw [← HWA.out]
  go_wp2_with fail
  refine C1.out.mono ?_
  rintro e w1 ⟨rfl, hb1⟩
  have HB1 := hide hb1
  have a1 := cell_grows hb1 _ _ a1
  clear hb1 a0
  cases q1
  · have HY := hide (show false = q from HQ.out)
    go_wp2_with fail
    go_ret
    exact ⟨ret_bool HY.out, HBA.out.trans (HB1.out.mono HBA.out.size)⟩
  · have HY := hide (show q2 = q from HQ.out)
    go_wp2_with fail
    refine (C2.out _ HB1.out).mono ?_
    rintro e w2 ⟨rfl, hb2⟩
    have HB2 := hide (HBA.out.trans ((HB1.out.trans (hb2.mono HB1.out.size)).mono HBA.out.size))
    clear hb2 a1
    go_wp2_with fail
    go_ret
    exact ⟨ret_bool HY.out, HB2.out⟩

set_option maxRecDepth 100000 in
set_option maxHeartbeats 8000000 in
theorem sameState_any (n : List Sub) (A B : Option Addr) (c d : Nat) (w : World) (h1 : Sl RSub 2 w (Lt w.heap.size) n [.slice A n.length c]) (h2 : Sl RSub 2 w (Lt w.heap.size) n [.slice B n.length d]) :
    Calls Tryz.prog 14 #[.agg #[.slice A n.length c], .agg #[.slice B n.length d]] w fun e w' => e = .returned (.bool true) ∧ Below w.heap.size w w' := by
  obtain ⟨-, hnc, hcm⟩ := h1.len_
  obtain ⟨-, hnc2, hcm2⟩ := h2.len_
  unfold maxLen at hcm hcm2
  have K1 := hide h1
  have K2 := hide h2
  have t0 : ((n.length : Int) != (n.length : Int)) = false := by simp
  obtain ⟨wa, hwa⟩ : ∃ wa, wa = (w.alloc (.cells #[.slice A n.length c] 24)).alloc (.cells #[.slice B n.length d] 24) := ⟨_, rfl⟩
  have hz : (w.alloc (.cells #[.slice A n.length c] 24)).heap.size = w.heap.size + 1 := by simp
  have a0 : wa.cell? ⟨w.heap.size, 0, none⟩ = some (.slice A n.length c) := by rw [hwa, World.cell?_alloc_lt _ _ _ (by simp), World.cell?_alloc_new]; rfl
  have b0 : wa.cell? ⟨w.heap.size + 1, 0, none⟩ = some (.slice B n.length d) := by rw [hwa, ← hz, World.cell?_alloc_new]; rfl
  have hba : Below w.heap.size w wa := by rw [hwa]; exact ((Below.refl _ _).alloc (Nat.le_refl _) _).alloc (by simp) _
  obtain ⟨g3, hg3⟩ : ∃ g, g = w.heap.size + 1 := ⟨_, rfl⟩
  obtain ⟨g2, hg2⟩ : ∃ g, g = w.heap.size := ⟨_, rfl⟩
  rw [← hg3] at b0
  rw [← hg2] at a0
  have A0 := hide a0
  have B0 := hide b0
  have HBA := hide hba
  have HWA := hide hwa
  have HG2 := hide hg2
  have HG3 := hide hg3
  clear h1 h2 hwa hz hba hg2 hg3
  go_enter Tryz.func14, Tryz.ntmps14
  go_upto_region 1 with (fail)
  rw [← HWA.out, ← HG3.out, ← HG2.out]
  go_wp2_with fail
  clear t0 a0 b0
  go_loopw [16] (fun i wr => ∃ k : Nat, k ≤ n.length ∧ i = .int .i64 k ∧ Below wa.heap.size wa wr) (fun i _ => n.length - (intOf i).toNat)
  case atStart => exact ⟨0, Nat.zero_le _, rfl, Below.refl _ _⟩
  case round =>
    obtain ⟨k, hk, rfl, hb⟩ := hrel
    have hbw := HBA.out.trans (hb.mono HBA.out.size)
    by_cases hlt : k < n.length
    · obtain ⟨b1, o1, P1, c1, X1, e1, hA, hbS1, d0, d1, hp1, hx1⟩ := K1.out.subAt hlt
      obtain ⟨b2, o2, P2, c2, X2, e2, hB, hbS2, d2, d3, hp2, hx2⟩ := K2.out.subAt hlt
      subst hA hB
      have hbS1' : b1 < w.heap.size := hbS1
      have hbS2' : b2 < w.heap.size := hbS2
      obtain ⟨p, hp⟩ : ∃ p, n[k].1 = p := ⟨_, rfl⟩
      obtain ⟨x, hx⟩ : ∃ x, n[k].2 = x := ⟨_, rfl⟩
      rw [hp] at d0 d2 hp1 hp2
      rw [hx] at d1 d3 hx1 hx2
      have f1 : wr.cell? ⟨g2, 0, none⟩ = some (.slice (some ⟨b1, o1, none⟩) n.length c) := cell_grows hb _ _ A0.out
      have f2 : wr.cell? ⟨g3, 0, none⟩ = some (.slice (some ⟨b2, o2, none⟩) n.length d) := cell_grows hb _ _ B0.out
      have f3 := (hbw.cell (p := ⟨b1, o1 + k * 2, none⟩) hbS1').trans d0
      have f4 := (hbw.cell (p := ⟨b1, o1 + k * 2 + 1, none⟩) hbS1').trans d1
      have f5 := (hbw.cell (p := ⟨b2, o2 + k * 2, none⟩) hbS2').trans d2
      have f6 := (hbw.cell (p := ⟨b2, o2 + k * 2 + 1, none⟩) hbS2').trans d3
      have f7 : Below wr.heap.size wr wr := Below.refl _ _
      have f1d : wr.drew.cell? ⟨g2, 0, none⟩ = some (.slice (some ⟨b1, o1, none⟩) n.length c) := f1
      have f2d : wr.drew.cell? ⟨g3, 0, none⟩ = some (.slice (some ⟨b2, o2, none⟩) n.length d) := f2
      have f3d : wr.drew.cell? ⟨b1, o1 + k * 2, none⟩ = some (.slice P1 p.length c1) := f3
      have f4d : wr.drew.cell? ⟨b1, o1 + k * 2 + 1, none⟩ = some (.slice X1 x.length e1) := f4
      have f5d : wr.drew.cell? ⟨b2, o2 + k * 2, none⟩ = some (.slice P2 p.length c2) := f5
      have f6d : wr.drew.cell? ⟨b2, o2 + k * 2 + 1, none⟩ = some (.slice X2 x.length e2) := f6
      have f7d : Below wr.heap.size wr wr.drew := f7.drew
      have EP := hide (fun W (h1 : W.cell? ⟨g2, 0, none⟩ = some (.slice (some ⟨b1, o1, none⟩) n.length c)) (h2 : W.cell? ⟨g3, 0, none⟩ = some (.slice (some ⟨b2, o2, none⟩) n.length d)) (h3 : W.cell? ⟨b1, o1 + k * 2, none⟩ = some (.slice P1 p.length c1)) (h4 : W.cell? ⟨b1, o1 + k * 2 + 1, none⟩ = some (.slice X1 x.length e1)) (h5 : W.cell? ⟨b2, o2 + k * 2, none⟩ = some (.slice P2 p.length c2)) (h6 : W.cell? ⟨b2, o2 + k * 2 + 1, none⟩ = some (.slice X2 x.length e2)) (h7 : Below wr.heap.size wr W) => (ExactGs_same p P1 P2 c1 c2 W ((Sl.ok RGen.ok).below hp1 (hbw.trans (h7.mono hbw.size))) ((Sl.ok RGen.ok).below hp2 (hbw.trans (h7.mono hbw.size)))).mono (R' := fun e W' => e = .returned (.bool true) ∧ W'.cell? ⟨g2, 0, none⟩ = some (.slice (some ⟨b1, o1, none⟩) n.length c) ∧ W'.cell? ⟨g3, 0, none⟩ = some (.slice (some ⟨b2, o2, none⟩) n.length d) ∧ W'.cell? ⟨b1, o1 + k * 2, none⟩ = some (.slice P1 p.length c1) ∧ W'.cell? ⟨b1, o1 + k * 2 + 1, none⟩ = some (.slice X1 x.length e1) ∧ W'.cell? ⟨b2, o2 + k * 2, none⟩ = some (.slice P2 p.length c2) ∧ W'.cell? ⟨b2, o2 + k * 2 + 1, none⟩ = some (.slice X2 x.length e2) ∧ Below wr.heap.size wr W') fun _ _ ⟨he, hb9⟩ => ⟨he, cell_grows hb9 _ _ h1, cell_grows hb9 _ _ h2, cell_grows hb9 _ _ h3, cell_grows hb9 _ _ h4, cell_grows hb9 _ _ h5, cell_grows hb9 _ _ h6, h7.trans (hb9.mono h7.size)⟩)
      have EX := hide (fun W (h1 : W.cell? ⟨g2, 0, none⟩ = some (.slice (some ⟨b1, o1, none⟩) n.length c)) (h2 : W.cell? ⟨g3, 0, none⟩ = some (.slice (some ⟨b2, o2, none⟩) n.length d)) (h3 : W.cell? ⟨b1, o1 + k * 2, none⟩ = some (.slice P1 p.length c1)) (h4 : W.cell? ⟨b1, o1 + k * 2 + 1, none⟩ = some (.slice X1 x.length e1)) (h5 : W.cell? ⟨b2, o2 + k * 2, none⟩ = some (.slice P2 p.length c2)) (h6 : W.cell? ⟨b2, o2 + k * 2 + 1, none⟩ = some (.slice X2 x.length e2)) (h7 : Below wr.heap.size wr W) => (ExactGs_same x X1 X2 e1 e2 W ((Sl.ok RGen.ok).below hx1 (hbw.trans (h7.mono hbw.size))) ((Sl.ok RGen.ok).below hx2 (hbw.trans (h7.mono hbw.size)))).mono (R' := fun e W' => e = .returned (.bool true) ∧ W'.cell? ⟨g2, 0, none⟩ = some (.slice (some ⟨b1, o1, none⟩) n.length c) ∧ W'.cell? ⟨g3, 0, none⟩ = some (.slice (some ⟨b2, o2, none⟩) n.length d) ∧ W'.cell? ⟨b1, o1 + k * 2, none⟩ = some (.slice P1 p.length c1) ∧ W'.cell? ⟨b1, o1 + k * 2 + 1, none⟩ = some (.slice X1 x.length e1) ∧ W'.cell? ⟨b2, o2 + k * 2, none⟩ = some (.slice P2 p.length c2) ∧ W'.cell? ⟨b2, o2 + k * 2 + 1, none⟩ = some (.slice X2 x.length e2) ∧ Below wr.heap.size wr W') fun _ _ ⟨he, hb9⟩ => ⟨he, cell_grows hb9 _ _ h1, cell_grows hb9 _ _ h2, cell_grows hb9 _ _ h3, cell_grows hb9 _ _ h4, cell_grows hb9 _ _ h5, cell_grows hb9 _ _ h6, h7.trans (hb9.mono h7.size)⟩)
      have hk0 : (0 : Int) ≤ (k : Int) := by omega
      have hkl : (k : Int) < (n.length : Int) := by omega
      have HBW := hide hb
      have HLT := hide hlt
      clear d0 d1 d2 d3 hp1 hp2 hx1 hx2 hp hx hb hbw hbS1 hbS2 hbS1' hbS2'
      go_upto_region 6 with (fail)
      go_region_held3 (fun W => W.cell? ⟨g2, 0, none⟩ = some (.slice (some ⟨b1, o1, none⟩) n.length c) ∧ W.cell? ⟨g3, 0, none⟩ = some (.slice (some ⟨b2, o2, none⟩) n.length d) ∧ W.cell? ⟨b1, o1 + k * 2, none⟩ = some (.slice P1 p.length c1) ∧ W.cell? ⟨b1, o1 + k * 2 + 1, none⟩ = some (.slice X1 x.length e1) ∧ W.cell? ⟨b2, o2 + k * 2, none⟩ = some (.slice P2 p.length c2) ∧ W.cell? ⟨b2, o2 + k * 2 + 1, none⟩ = some (.slice X2 x.length e2) ∧ Below wr.heap.size wr W)
        (first | exact ⟨hs1, hs2, hs3, hs4, hs5, hs6, hs7⟩ | exact ⟨f1, f2, f3, f4, f5, f6, f7⟩ | exact ⟨f1d, f2d, f3d, f4d, f5d, f6d, f7d⟩)
        (first
          | (go_at_call 27; (first | (with_reducible refine (EP.out _ hs1 hs2 hs3 hs4 hs5 hs6 hs7).mono ?_) | (with_reducible refine (EX.out _ hs1 hs2 hs3 hs4 hs5 hs6 hs7).mono ?_) | (with_reducible refine (EP.out wr.drew f1d f2d f3d f4d f5d f6d f7d).mono ?_) | (with_reducible refine (EX.out wr.drew f1d f2d f3d f4d f5d f6d f7d).mono ?_) | fail); rintro e wn ⟨rfl, hs1, hs2, hs3, hs4, hs5, hs6, hs7⟩)
          | fail)
      all_goals
        have HBN := hide (HBW.out.trans (hs7.mono HBW.out.size))
        go_wp2_with fail
        go_roundw
        case rel => exact ⟨k + 1, HLT.out, by go_num, HBN.out⟩
        case measure => (have := HLT.out; simp [intOf]; omega)
    · go_wp2_with fail
      go_ret
      exact ⟨rfl, hbw⟩
end Go.Proofs.YtodapmkdmkhhfaaGreatDoor
