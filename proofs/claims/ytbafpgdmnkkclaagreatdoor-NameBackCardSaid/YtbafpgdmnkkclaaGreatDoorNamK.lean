/- The reference's ExactName, of one name that lies twice in memory. -/
import Derived.Test.YtbafpgdmnkkclaaGreatDoorNamD
namespace Go.Proofs.YtbafpgdmnkkclaaGreatDoor
open Go.RowKit

theorem neq_att (ta va : ByteArray) (k : Int) (W : World) : (binOp .neq 40 (.agg #[.string ta, .int .i64 k, .string va]) (.agg #[.string ta, .int .i64 k, .string va])).run Tryz.prog W = .ok (.bool false) W := by
  have h0 := Tryz.underlying9
  have h1 := Tryz.underlying3
  have h2 := Tryz.underlying40
  have hp : Program.stoodInHeld Tryz.prog 40 = false := by kernel_rfl
  have hf : Program.fieldsOf Tryz.prog 40 = _ := rfl
  go_simp

set_option maxRecDepth 100000 in
set_option maxHeartbeats 8000000 in
theorem Exact_same (n : Name) (A B : Option Addr) (c d : Nat) (w : World) (h : Sl RRdn 1 w (Lt w.heap.size) n [.slice A n.length c]) (h2 : Sl RRdn 1 w (Lt w.heap.size) n [.slice B n.length d]) :
    Calls Tryz.prog 16 #[.agg #[.slice A n.length c], .agg #[.slice B n.length d]] w fun e w' => e = .returned (.bool true) ∧ Below w.heap.size w w' := by
  obtain ⟨-, hnc, hcm⟩ := h.len_
  obtain ⟨-, hnc2, hcm2⟩ := h2.len_
  unfold maxLen at hcm hcm2
  have K := hide h
  have K2 := hide h2
  have t0 : ((n.length : Int) != (n.length : Int)) = false := by simp
  clear h h2
  go_enter Tryz.func16, Tryz.ntmps16
  go_wp2_with fail
  obtain ⟨wa, hwa⟩ : ∃ wa, wa = (w.alloc (.cells #[.slice A n.length c] 31)).alloc (.cells #[.slice B n.length d] 31) := ⟨_, rfl⟩
  have ha0 : wa.cell? ⟨w.heap.size, 0, none⟩ = some (.slice A n.length c) := by
    rw [hwa, World.cell?_alloc_lt _ _ _ (by simp), World.cell?_alloc_new]; rfl
  have ha1 : wa.cell? ⟨w.heap.size + 1, 0, none⟩ = some (.slice B n.length d) := by
    rw [hwa, show w.heap.size + 1 = (w.alloc (.cells #[.slice A n.length c] 31)).heap.size by simp, World.cell?_alloc_new]; rfl
  have hba : Below w.heap.size w wa := by rw [hwa]; exact ((Below.refl _ _).alloc (Nat.le_refl _) _).alloc (by simp) _
  rw [← hwa]
  have HA0 := hide ha0
  have HA1 := hide ha1
  have HBA := hide hba
  clear hwa ha0 ha1 hba t0
  go_loopw [17] (fun i wr => ∃ k : Nat, k ≤ n.length ∧ i = .int .i64 k ∧ Below wa.heap.size wa wr) (fun i _ => n.length - (intOf i).toNat)
  case atStart => exact ⟨0, by omega, rfl, Below.refl _ _⟩
  case round =>
    obtain ⟨k, hk, rfl, hb⟩ := hrel
    have hbw := HBA.out.trans (hb.mono HBA.out.size)
    by_cases hlt : k < n.length
    · obtain ⟨b1, o1, A1, c1, hA, hbS, d1, hsl1⟩ := K.out.rdnAt hlt
      obtain ⟨b2, o2, A2, c2, hA2, hbS2, d2, hsl2⟩ := K2.out.rdnAt hlt
      subst hA hA2
      have hbS' : b1 < w.heap.size := hbS
      have hbS2' : b2 < w.heap.size := hbS2
      obtain ⟨r, hr⟩ : ∃ r, n[k] = r := ⟨_, rfl⟩
      rw [hr] at d1 d2 hsl1 hsl2
      have e0 := cell_grows hb _ _ HA0.out
      have e1 := cell_grows hb _ _ HA1.out
      have e2 := (hbw.cell (p := ⟨b1, o1 + k, none⟩) hbS').trans d1
      have e3 := (hbw.cell (p := ⟨b2, o2 + k, none⟩) hbS2').trans d2
      have t1 : ((r.length : Int) != (r.length : Int)) = false := by simp
      have hk0 : (0 : Int) ≤ (k : Int) := by omega
      have hkn : (k : Int) < (n.length : Int) := by omega
      have S1 := hide hsl1
      have S2 := hide hsl2
      have hm1 := hsl1.len_.2
      have hm2 := hsl2.len_.2
      obtain ⟨hm1, hm1'⟩ := hm1
      obtain ⟨hm2, hm2'⟩ := hm2
      unfold maxLen at hm1' hm2'
      have HB := hide hb
      have E0 := hide e0
      have E1 := hide e1
      have E2 := hide e2
      have E3 := hide e3
      obtain ⟨wo, rfl⟩ : ∃ wo : World, wo = wr := ⟨_, rfl⟩
      clear hr d1 d2 hsl1 hsl2 hb hbw
      go_wp2_with fail
      go_quiet (fail)
      go_wp2_with fail
      clear t1 e0 e1 e2 e3
      go_loopw [39] (fun i wi => ∃ j : Nat, j ≤ r.length ∧ i = .int .i64 j ∧ Below wo.heap.size wo wi) (fun i _ => r.length - (intOf i).toNat)
      case atStart => exact ⟨0, by omega, rfl, below_drewN (Below.refl _ _) _⟩
      case round =>
        obtain ⟨j, hj, rfl, hb⟩ := hrel
        by_cases hjl : j < r.length
        · obtain ⟨b3, o3, hA3, hbS3, f0, f1, f2⟩ := attAt_v S1.out hjl
          obtain ⟨b4, o4, hA4, hbS4, g0, g1, g2⟩ := attAt_v S2.out hjl
          subst hA3 hA4
          have hbS3' : b3 < w.heap.size := hbS3
          have hbS4' : b4 < w.heap.size := hbS4
          obtain ⟨ta, va, kk, hrj⟩ : ∃ (ta va : ByteArray) (kk : Int), r[j] = (ta.data.toList, kk, va.data.toList) := ⟨⟨r[j].1.toArray⟩, ⟨r[j].2.2.toArray⟩, r[j].2.1, rfl⟩
          rw [hrj] at f0 f1 f2 g0 g1 g2
          have hbw := HBA.out.trans ((HB.out.trans (hb.mono HB.out.size)).mono HBA.out.size)
          have f0' : wr.cell? ⟨b3, o3 + j * 3, none⟩ = some (.string ta) := (hbw.cell (p := ⟨b3, o3 + j * 3, none⟩) hbS3').trans f0
          have f1' : wr.cell? ⟨b3, o3 + j * 3 + 1, none⟩ = some (.int .i64 kk) := (hbw.cell (p := ⟨b3, o3 + j * 3 + 1, none⟩) hbS3').trans f1
          have f2' : wr.cell? ⟨b3, o3 + j * 3 + 2, none⟩ = some (.string va) := (hbw.cell (p := ⟨b3, o3 + j * 3 + 2, none⟩) hbS3').trans f2
          have g0' : wr.cell? ⟨b4, o4 + j * 3, none⟩ = some (.string ta) := (hbw.cell (p := ⟨b4, o4 + j * 3, none⟩) hbS4').trans g0
          have g1' : wr.cell? ⟨b4, o4 + j * 3 + 1, none⟩ = some (.int .i64 kk) := (hbw.cell (p := ⟨b4, o4 + j * 3 + 1, none⟩) hbS4').trans g1
          have g2' : wr.cell? ⟨b4, o4 + j * 3 + 2, none⟩ = some (.string va) := (hbw.cell (p := ⟨b4, o4 + j * 3 + 2, none⟩) hbS4').trans g2
          have e0 := cell_grows hb _ _ E0.out
          have e1 := cell_grows hb _ _ E1.out
          have e2 := cell_grows hb _ _ E2.out
          have e3 := cell_grows hb _ _ E3.out
          have hj0 : (0 : Int) ≤ (j : Int) := by omega
          have hjr : (j : Int) < (r.length : Int) := by omega
          have hneq := neq_att ta va kk
          have HBI := hide hb
          clear f0 f1 f2 g0 g1 g2 hrj hbw hb
          go_wp2_with fail
          go_quiet (fail)
          go_wp2_with fail
          go_roundw
          case rel => exact ⟨j + 1, by omega, by go_num, below_drewN HBI.out _⟩
          case measure => simp [intOf]; omega
        · have HBI := hide (HB.out.trans (hb.mono HB.out.size))
          clear hb
          go_wp2_with fail
          go_roundw
          case rel => exact ⟨k + 1, by omega, by go_num, HBI.out⟩
          case measure => simp [intOf]; omega
    · have HBW := hide hbw
      clear hb hbw
      go_wp2_with fail
      go_ret
      exact ⟨rfl, HBW.out⟩
end Go.Proofs.YtbafpgdmnkkclaaGreatDoor
