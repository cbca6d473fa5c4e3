/- Names that come in: the test on their sizes. -/
import Derived.Test.YtodapmkdmkhhfaaGreatDoorNamD
namespace Go.Proofs.YtodapmkdmkhhfaaGreatDoor
open Go.RowKit

def shortA (a : Attr) : Bool := decide (a.1.length ≤ 200) && decide (a.2.2.length ≤ 200)
def shortR (r : List Attr) : Bool := decide (r.length ≤ 8) && r.all shortA
def shortN (n : Name) : Bool := decide (n.length ≤ 12) && n.all shortR
theorem shortN_small {n : Name} (h : shortN n = true) : SmallN n := fun r hr a ha => by
  simp only [shortN, Bool.and_eq_true, List.all_eq_true] at h
  have h1 := h.2 r hr
  simp only [shortR, Bool.and_eq_true, List.all_eq_true] at h1
  have h2 := h1.2 a ha
  simp only [shortA, Bool.and_eq_true, decide_eq_true_eq] at h2
  exact ⟨by omega, by omega⟩

set_option maxRecDepth 100000 in
set_option maxHeartbeats 4000000 in
theorem Short_any (n : Name) (A : Option Addr) (c : Nat) (w : World) (h : Sl RRdn 1 w (Lt w.heap.size) n [.slice A n.length c]) (q : Bool) (hq : shortN n = q) :
    Calls Tryz.prog 20 #[.agg #[.slice A n.length c]] w fun e w' => e = .returned (.bool q) ∧ Below w.heap.size w w' := by
  obtain ⟨-, hnc, hcm⟩ := h.len_
  unfold maxLen at hcm
  have K := hide h
  clear h
  by_cases hl : n.length ≤ 12
  · have H0 := hide (show q = (n.drop 0).all shortR by rw [← hq, shortN, decide_eq_true hl]; rfl)
    have hle : ¬ 12 < n.length := by omega
    clear hq
    go_enter Tryz.func20, Tryz.ntmps20
    go_wp2_with fail
    obtain ⟨wa, hwa⟩ : ∃ wa, wa = w.alloc (.cells #[.slice A n.length c] 30) := ⟨_, rfl⟩
    have hba : Below w.heap.size w wa := by rw [hwa]; exact (Below.refl _ _).alloc (Nat.le_refl _) _
    rw [← hwa]
    have HBA := hide hba
    clear hwa hba
    go_loopw [14] (fun i wr => ∃ k : Nat, k ≤ n.length ∧ i = .int .i64 k ∧ Below w.heap.size w wr ∧ Hid (q = (n.drop k).all shortR)) (fun i _ => n.length - (intOf i).toNat)
    case atStart => exact ⟨0, by omega, rfl, HBA.out, H0⟩
    case round =>
      obtain ⟨k, hk, rfl, hb, H⟩ := hrel
      by_cases hlt : k < n.length
      · obtain ⟨b1, o1, A1, c1, hA, hbS, d1, hsl1⟩ := K.out.rdnAt hlt
        subst hA
        have hbS' : b1 < w.heap.size := hbS
        have HX := hide (show q = (shortR n[k] && (n.drop (k + 1)).all shortR) by rw [H.out, List.drop_eq_getElem_cons hlt, List.all_cons])
        obtain ⟨r, hr⟩ : ∃ r, n[k] = r := ⟨_, rfl⟩
        rw [hr] at d1 hsl1 HX
        have e1 := (hb.cell (p := ⟨b1, o1 + k, none⟩) hbS').trans d1
        have HSL1 := hide hsl1
        have hcm1 := hsl1.len_.2
        obtain ⟨hcm1, hcm2⟩ := hcm1
        unfold maxLen at hcm2
        have HB := hide hb
        obtain ⟨wo, rfl⟩ : ∃ wo : World, wo = wr := ⟨_, rfl⟩
        clear hr d1 hsl1 hb
        by_cases hr8 : r.length ≤ 8
        · have hle8 : ¬ 8 < r.length := by omega
          have HS := hide (show shortR r = (r.drop 0).all shortA by rw [shortR, decide_eq_true hr8]; rfl)
          go_wp2_with fail
          go_loopw [23] (fun i wi => ∃ j : Nat, j ≤ r.length ∧ i = .int .i64 j ∧ Below w.heap.size w wi ∧ Hid (shortR r = (r.drop j).all shortA)) (fun i _ => r.length - (intOf i).toNat)
          case atStart => exact ⟨0, by omega, rfl, HB.out, HS⟩
          case round =>
            obtain ⟨j, hj, rfl, hb, HJ⟩ := hrel
            by_cases hjl : j < r.length
            · obtain ⟨b2, o2, hA2, hbS2, f0, f1, f2⟩ := attAt_v HSL1.out hjl
              subst hA2
              have hbS2' : b2 < w.heap.size := hbS2
              have HY := hide (show shortR r = (shortA r[j] && (r.drop (j + 1)).all shortA) by rw [HJ.out, List.drop_eq_getElem_cons hjl, List.all_cons])
              obtain ⟨ta, va, kk, hrj⟩ : ∃ (ta va : ByteArray) (kk : Int), r[j] = (ta.data.toList, kk, va.data.toList) := ⟨⟨r[j].1.toArray⟩, ⟨r[j].2.2.toArray⟩, r[j].2.1, rfl⟩
              rw [hrj] at f0 f1 f2 HY
              have g0 : wr.cell? ⟨b2, o2 + j * 3, none⟩ = some (.string ta) := (hb.cell (p := ⟨b2, o2 + j * 3, none⟩) hbS2').trans f0
              have g1 : wr.cell? ⟨b2, o2 + j * 3 + 1, none⟩ = some (.int .i64 kk) := (hb.cell (p := ⟨b2, o2 + j * 3 + 1, none⟩) hbS2').trans f1
              have g2 : wr.cell? ⟨b2, o2 + j * 3 + 2, none⟩ = some (.string va) := (hb.cell (p := ⟨b2, o2 + j * 3 + 2, none⟩) hbS2').trans f2
              have HZ := hide (show shortR r = (decide (ta.size ≤ 200) && decide (va.size ≤ 200) && (r.drop (j + 1)).all shortA) by
                rw [HY.out, shortA, size_string, size_string])
              have HBB := hide hb
              have hbz := hb.size
              clear f0 f1 f2 hrj hb
              by_cases h1 : ta.size ≤ 200
              · have h1' : ¬ 200 < ta.size := by omega
                by_cases h2 : va.size ≤ 200
                · have h2' : ¬ 200 < va.size := by omega
                  have HN := hide (show shortR r = (r.drop (j + 1)).all shortA by rw [HZ.out, decide_eq_true h1, decide_eq_true h2]; rfl)
                  go_wp2_with fail
                  go_roundw
                  case rel => exact ⟨j + 1, by omega, by go_num, HBB.out.alloc hbz _, HN⟩
                  case measure => simp [intOf]; omega
                · have h2' : 200 < va.size := by omega
                  have HN := hide (show q = false by rw [HX.out, HZ.out, decide_eq_false h2]; simp)
                  go_wp2_with fail
                  go_ret
                  exact ⟨ret_bool HN.out.symm, HBB.out.alloc hbz _⟩
              · have h1' : 200 < ta.size := by omega
                have HN := hide (show q = false by rw [HX.out, HZ.out, decide_eq_false h1]; simp)
                go_wp2_with fail
                go_ret
                exact ⟨ret_bool HN.out.symm, HBB.out.alloc hbz _⟩
            · have HN := hide (show q = (n.drop (k + 1)).all shortR by
                rw [HX.out, HJ.out, List.drop_of_length_le (show r.length ≤ j by omega)]; rfl)
              have HBB := hide hb
              clear hb
              go_wp2_with fail
              go_roundw
              case rel => exact ⟨k + 1, by omega, by go_num, HBB.out, HN⟩
              case measure => simp [intOf]; omega
        · have hle8 : 8 < r.length := by omega
          have HN := hide (show q = false by rw [HX.out, shortR, decide_eq_false hr8]; rfl)
          go_wp2_with fail
          go_ret
          exact ⟨ret_bool HN.out.symm, HB.out⟩
      · have HN := hide (show q = true by rw [H.out, List.drop_of_length_le (by omega)]; rfl)
        have HB := hide hb
        clear hb
        go_wp2_with fail
        go_ret
        exact ⟨ret_bool HN.out.symm, HB.out⟩
  · have HN := hide (show q = false by rw [← hq, shortN, decide_eq_false hl]; rfl)
    have hle : 12 < n.length := by omega
    clear hq hl
    go_enter Tryz.func20, Tryz.ntmps20
    go_wp2_with fail
    go_ret
    exact ⟨ret_bool HN.out.symm, (Below.refl _ _).alloc (Nat.le_refl _) _⟩
end Go.Proofs.YtodapmkdmkhhfaaGreatDoor
