/- General names that come in: the test on their sizes. -/
import Derived.Test.YtodapmkdmkhhfaaGreatDoorGn1
import Derived.Test.YtodapmkdmkhhfaaGreatDoorNamF
namespace Go.Proofs.YtodapmkdmkhhfaaGreatDoor
open Go.RowKit

def shortG (g : Gen) : Bool := decide (g.2.1.length ≤ 300) && shortN g.2.2
def shortGs (l : List Gen) : Bool := decide (l.length ≤ 20) && l.all shortG
theorem shortGs_small {l : List Gen} (h : shortGs l = true) : SmallGs l := fun g hg => by
  simp only [shortGs, Bool.and_eq_true, List.all_eq_true] at h
  have h1 := h.2 g hg
  simp only [shortG, Bool.and_eq_true, decide_eq_true_eq] at h1
  exact ⟨by omega, shortN_small h1.2⟩

set_option maxRecDepth 100000 in
set_option maxHeartbeats 4000000 in
theorem ShortNames_any (l : List Gen) (B : Option Addr) (d : Nat) (q : Bool) (hq : shortGs l = q) (w : World) (h2 : Sl RGen 3 w (Lt w.heap.size) l [.slice B l.length d]) :
    Calls Tryz.prog 9 #[.slice B l.length d] w fun e w' => e = .returned (.bool q) ∧ Below w.heap.size w w' := by
  have K2 := hide h2
  clear h2
  by_cases hl : l.length ≤ 20
  · have hn20 : ¬ (20 : Int) < (l.length : Int) := by omega
    have H0 := hide (show (l.drop 0).all shortG = q by rw [← hq, shortGs, decide_eq_true hl]; rfl)
    clear hq
    go_enter Tryz.func9, Tryz.ntmps9
    go_wp2_with fail
    go_loopw [10] (fun i wr => ∃ k : Nat, k ≤ l.length ∧ i = .int .i64 k ∧ Below w.heap.size w wr ∧ Hid ((l.drop k).all shortG = q)) (fun i _ => l.length - (intOf i).toNat)
    case atStart => exact ⟨0, Nat.zero_le _, rfl, Below.refl _ _, H0⟩
    case round =>
      obtain ⟨k, hk, rfl, hb, H⟩ := hrel
      by_cases hlt : k < l.length
      · obtain ⟨b2, o2, t2, A2, c2, hB, hbS, ht2, d0, d1, d2, hsl⟩ := K2.out.genAt hlt
        subst hB
        have hbS' : b2 < w.heap.size := hbS
        have hlt' : (k : Int) < (l.length : Int) := by omega
        have f0 := (hb.cell (p := ⟨b2, o2 + k * 3, none⟩) hbS').trans d0
        have f1 := (hb.cell (p := ⟨b2, o2 + k * 3 + 1, none⟩) hbS').trans d1
        have f2 := (hb.cell (p := ⟨b2, o2 + k * 3 + 2, none⟩) hbS').trans d2
        have hts : t2.size = l[k].2.1.length := by rw [← ht2, size_string]
        have HX := hide (show (shortG l[k] && (l.drop (k + 1)).all shortG) = q by rw [← H.out, List.drop_eq_getElem_cons hlt, List.all_cons])
        obtain ⟨g, hg⟩ : ∃ g, l[k] = g := ⟨_, rfl⟩
        rw [hg] at f0 f2 hsl HX hts
        obtain ⟨p1, hp1⟩ : ∃ p, shortN g.2.2 = p := ⟨_, rfl⟩
        have hbc : Below wr.heap.size wr (wr.alloc (.cells #[.int .i64 g.1, .string t2, .slice A2 g.2.2.length c2] 32)) := (Below.refl _ _).alloc (Nat.le_refl _) _
        have hbwc := hb.trans (hbc.mono hb.size)
        have SH := hide (Short_any g.2.2 A2 c2 _ ((Sl.ok RRdn.ok).below hsl hbwc) p1 hp1)
        have HBC := hide hbwc
        by_cases h300 : t2.size ≤ 300
        · have hn3 : ¬ (300 : Int) < (t2.size : Int) := by omega
          have HX2 := hide (show (p1 && (l.drop (k + 1)).all shortG) = q by rw [← HX.out, shortG, ← hts, decide_eq_true h300, hp1]; rfl)
          clear hb d0 d1 d2 hsl hg hp1 hbc hbwc ht2 hts h300 H
          go_wp2_with fail
          refine SH.out.mono ?_
          rintro e w5 ⟨rfl, hb5⟩
          have HB5 := hide (HBC.out.trans (hb5.mono HBC.out.size))
          clear hb5 f0 f1 f2
          cases p1
          · have HY := hide (show false = q from HX2.out)
            go_wp2_with fail
            go_ret
            exact ⟨ret_bool HY.out, HB5.out⟩
          · have HY := hide (show (l.drop (k + 1)).all shortG = q from HX2.out)
            go_wp2_with fail
            go_roundw
            case rel => exact ⟨k + 1, by omega, by go_num, HB5.out, HY⟩
            case measure => simp [intOf]; omega
        · have hn3 : (300 : Int) < (t2.size : Int) := by omega
          have HY := hide (show false = q by rw [← HX.out, shortG, ← hts, decide_eq_false h300]; rfl)
          clear hb d0 d1 d2 hsl hg hp1 hbc hbwc ht2 hts h300 H
          go_wp2_with fail
          go_ret
          exact ⟨ret_bool HY.out, HBC.out⟩
      · have HY := hide (show true = q by rw [← H.out, List.drop_of_length_le (by omega)]; rfl)
        have HB := hide hb
        clear hb
        go_wp2_with fail
        go_ret
        exact ⟨ret_bool HY.out, HB.out⟩
  · have hn20 : (20 : Int) < (l.length : Int) := by omega
    have HN := hide (show false = q by rw [← hq, shortGs, decide_eq_false hl]; rfl)
    clear hq hl
    go_enter Tryz.func9, Tryz.ntmps9
    go_wp2_with fail
    go_ret
    exact ⟨ret_bool HN.out, Below.refl _ _⟩
end Go.Proofs.YtodapmkdmkhhfaaGreatDoor
