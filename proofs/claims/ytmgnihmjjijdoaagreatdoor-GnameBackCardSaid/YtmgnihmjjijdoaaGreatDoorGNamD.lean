/- The functions of package dname and its reference: Within, Match. -/
import Derived.Test.YtmgnihmjjijdoaaGreatDoorGLibD
namespace Go.Proofs.YtmgnihmjjijdoaaGreatDoor
open Go.RowKit
theorem same_v (a b : List Attr) (A B : Option Addr) (c d : Nat) (q : Bool) (hq : sameR a b = q) (w : World) (h : Sl RAttr 3 w (Lt w.heap.size) a [.slice A a.length c]) (h2 : Sl RAttr 3 w (Lt w.heap.size) b [.slice B b.length d]) (hs1 : SmallR a) (hs2 : SmallR b) :
  Calls Tryz.prog 183 #[.slice A a.length c, .slice B b.length d] w fun e w' => e = .returned (.bool q) ∧ Below w.heap.size w w' := hq ▸ same_any a b A B c d w h h2 hs1 hs2
theorem rsame_v (a b : List Attr) (A B : Option Addr) (c d : Nat) (q : Bool) (hq : sameR a b = q) (w : World) (h : Sl RAttr 3 w (Lt w.heap.size) a [.slice A a.length c]) (h2 : Sl RAttr 3 w (Lt w.heap.size) b [.slice B b.length d]) (hs1 : SmallR a) (hs2 : SmallR b) :
  Calls Tryz.prog 133 #[.slice A a.length c, .slice B b.length d] w fun e w' => e = .returned (.bool q) ∧ Below w.heap.size w w' := hq ▸ rsame_any a b A B c d w h h2 hs1 hs2
theorem held4 {W W9 : World} {p1 p2 p3 p4 : Addr} {v1 v2 v3 v4 : Value} (hb : Below W.heap.size W W9) (h1 : W.cell? p1 = some v1) (h2 : W.cell? p2 = some v2) (h3 : W.cell? p3 = some v3) (h4 : W.cell? p4 = some v4) :
  W9.cell? p1 = some v1 ∧ W9.cell? p2 = some v2 ∧ W9.cell? p3 = some v3 ∧ W9.cell? p4 = some v4 :=
 ⟨cell_grows hb _ _ h1, cell_grows hb _ _ h2, cell_grows hb _ _ h3, cell_grows hb _ _ h4⟩
set_option maxRecDepth 100000 in
set_option maxHeartbeats 4000000 in
theorem Within_any (n m : Name) (A B : Option Addr) (c d : Nat) (w : World) (h : Sl RRdn 1 w (Lt w.heap.size) n [.slice A n.length c]) (h2 : Sl RRdn 1 w (Lt w.heap.size) m [.slice B m.length d]) (hs1 : SmallN n) (hs2 : SmallN m) :
  Calls Tryz.prog 140 #[.agg #[.slice A n.length c], .agg #[.slice B m.length d]] w fun e w' => e = .returned (.bool (withinN n m)) ∧ Below w.heap.size w w' := by
 obtain ⟨-, hnc, hcm⟩ := h.len_
 obtain ⟨-, hnc2, hcm2⟩ := h2.len_
 unfold maxLen at hcm hcm2
 obtain ⟨r, hr⟩ : ∃ r, withinN n m = r := ⟨_, rfl⟩
 rw [hr]
 have K := hide h
 have K2 := hide h2
 have HS1 := hide hs1
 have HS2 := hide hs2
 clear h h2 hs1 hs2
 by_cases hl : m.length ≤ n.length
 ·have H0 := hide (show r = ((n.zip m).drop 0).all fun p => sameR p.1 p.2 by rw [← hr, withinN, decide_eq_true hl]; rfl)
  have hdec : decide (n.length < m.length) = false := by simp; omega
  clear hr
  go_enter Tryz.func140, Tryz.ntmps140
  go_wp2_with fail
  obtain ⟨wa, hwa⟩ : ∃ wa, wa = (w.alloc (.cells #[.slice A n.length c] 24)).alloc (.cells #[.slice B m.length d] 24) := ⟨_, rfl⟩
  have ha0 : wa.cell? ⟨w.heap.size, 0, none⟩ = some (.slice A n.length c) := by
   rw [hwa, World.cell?_alloc_lt _ _ _ (by simp), World.cell?_alloc_new]; rfl
  have ha1 : wa.cell? ⟨w.heap.size + 1, 0, none⟩ = some (.slice B m.length d) := by
   rw [hwa, show w.heap.size + 1 = (w.alloc (.cells #[.slice A n.length c] 24)).heap.size by simp, World.cell?_alloc_new]; rfl
  have hba : Below w.heap.size w wa := by rw [hwa]; exact ((Below.refl _ _).alloc (Nat.le_refl _) _).alloc (by simp) _
  have hza : wa.heap.size = w.heap.size + 2 := by rw [hwa]; simp
  rw [← hwa]
  have HA0 := hide ha0
  have HA1 := hide ha1
  have HBA := hide hba
  have HZA := hide hza
  clear hwa ha0 ha1 hba hza
  go_loopw [16] (fun i wr => ∃ k : Nat, k ≤ m.length ∧ i = .int .i64 k ∧ Below wa.heap.size wa wr ∧ Hid (r = ((n.zip m).drop k).all fun p => sameR p.1 p.2)) (fun i _ => m.length - (intOf i).toNat)
  case atStart => exact ⟨0, by omega, rfl, Below.refl _ _, H0⟩
  case round =>
   obtain ⟨k, hk, rfl, hb, H⟩ := hrel
   have hbw := HBA.out.trans (hb.mono HBA.out.size)
   by_cases hlt : k < m.length
   ·obtain ⟨b1, o1, A1, c1, hA, hbS, d1, hsl1⟩ := K.out.rdnAt (i := k) (by omega)
    obtain ⟨b2, o2, A2, c2, hA2, hbS2, d2, hsl2⟩ := K2.out.rdnAt hlt
    subst hA hA2
    have hbS' : b1 < w.heap.size := hbS
    have hbS2' : b2 < w.heap.size := hbS2
    have hx1 := HS1.out (n[k]'(by omega)) (List.getElem_mem _)
    have hx2 := HS2.out m[k] (List.getElem_mem hlt)
    have HX := hide (show r = (sameR (n[k]'(by omega)) m[k] && ((n.zip m).drop (k + 1)).all fun p => sameR p.1 p.2) by
     rw [H.out, List.drop_eq_getElem_cons (show k < (n.zip m).length by rw [List.length_zip]; omega), List.getElem_zip]; rfl)
    obtain ⟨x, hx⟩ : ∃ x, n[k]'(by omega) = x := ⟨_, rfl⟩
    obtain ⟨y, hy⟩ : ∃ y, m[k] = y := ⟨_, rfl⟩
    rw [hx] at d1 hsl1 hx1 HX
    rw [hy] at d2 hsl2 hx2 HX
    obtain ⟨q, hq⟩ : ∃ q, sameR x y = q := ⟨_, rfl⟩
    rw [hq] at HX
    have e0 := cell_grows hb _ _ HA0.out
    have e1 := cell_grows hb _ _ HA1.out
    have e2 := (hbw.cell (p := ⟨b1, o1 + k, none⟩) hbS').trans d1
    have e3 := (hbw.cell (p := ⟨b2, o2 + k, none⟩) hbS2').trans d2
    have SC := hide (same_v x y _ _ _ _ q hq wr.drew ((Sl.ok RAttr.ok).below hsl1 hbw.drew) ((Sl.ok RAttr.ok).below hsl2 hbw.drew) hx1 hx2)
    have hk0 : (0 : Int) ≤ (k : Int) := by omega
    have hkn : (k : Int) < (n.length : Int) := by omega
    have hkm : (k : Int) < (m.length : Int) := by omega
    have HB := hide hb
    have HBW := hide hbw
    clear d1 d2 hsl1 hsl2 hx hy hq hx1 hx2 hb hbw
    go_wp2_with fail
    go_region_held3 (fun W => W.cell? ⟨w.heap.size, 0, none⟩ = some (.slice (some ⟨b1, o1, none⟩) n.length c) ∧ W.cell? ⟨w.heap.size + 1, 0, none⟩ = some (.slice (some ⟨b2, o2, none⟩) m.length d) ∧ W.cell? ⟨b1, o1 + k, none⟩ = some (.slice A1 x.length c1) ∧ W.cell? ⟨b2, o2 + k, none⟩ = some (.slice A2 y.length c2))
     (first | exact ⟨e0, e1, e2, e3⟩ | exact held4 hb9 e0 e1 e2 e3)
     (first | (go_at_call 183; refine SC.out.mono ?_; rintro e w9 ⟨rfl, hb9⟩))
    have HB9 := hide (HB.out.trans (((Below.refl wr.heap.size wr).drew.trans hb9).mono HB.out.size))
    have HBW9 := hide (HBW.out.trans (((Below.refl wr.heap.size wr).drew.trans hb9).mono HBW.out.size))
    clear hb9 e0 e1 e2 e3
    cases q
    ·have HY := hide (show r = false by rw [HX.out]; rfl)
     go_wp2_with fail
     go_ret
     exact ⟨ret_bool HY.out.symm, HBW9.out⟩
    ·have HY := hide (show r = ((n.zip m).drop (k + 1)).all fun p => sameR p.1 p.2 by rw [HX.out]; rfl)
     go_wp2_with fail
     go_roundw
     case rel => exact ⟨k + 1, by omega, by go_num, HB9.out, HY⟩
     case measure => simp [intOf]; omega
   ·have HX := hide (show r = true by rw [H.out, List.drop_of_length_le (by rw [List.length_zip]; omega)]; rfl)
    clear hb
    go_wp2_with fail
    go_ret
    exact ⟨ret_bool HX.out.symm, hbw⟩
 ·have HX := hide (show r = false by rw [← hr, withinN, decide_eq_false hl]; rfl)
  clear hr
  go_enter Tryz.func140, Tryz.ntmps140
  go_wp2_with fail
  go_ret
  exact ⟨ret_bool HX.out.symm, ((Below.refl _ _).alloc (Nat.le_refl _) _).alloc (by simp) _⟩
set_option maxRecDepth 100000 in
set_option maxHeartbeats 4000000 in
theorem rWithin_any (n m : Name) (A B : Option Addr) (c d : Nat) (w : World) (h : Sl RRdn 1 w (Lt w.heap.size) n [.slice A n.length c]) (h2 : Sl RRdn 1 w (Lt w.heap.size) m [.slice B m.length d]) (hs1 : SmallN n) (hs2 : SmallN m) :
  Calls Tryz.prog 92 #[.agg #[.slice A n.length c], .agg #[.slice B m.length d]] w fun e w' => e = .returned (.bool (withinN n m)) ∧ Below w.heap.size w w' := by
 obtain ⟨-, hnc, hcm⟩ := h.len_
 obtain ⟨-, hnc2, hcm2⟩ := h2.len_
 unfold maxLen at hcm hcm2
 obtain ⟨r, hr⟩ : ∃ r, withinN n m = r := ⟨_, rfl⟩
 rw [hr]
 have K := hide h
 have K2 := hide h2
 have HS1 := hide hs1
 have HS2 := hide hs2
 clear h h2 hs1 hs2
 by_cases hl : m.length ≤ n.length
 ·have H0 := hide (show r = ((n.zip m).drop 0).all fun p => sameR p.1 p.2 by rw [← hr, withinN, decide_eq_true hl]; rfl)
  have hdec : decide (n.length < m.length) = false := by simp; omega
  clear hr
  go_enter Tryz.func92, Tryz.ntmps92
  go_wp2_with fail
  obtain ⟨wa, hwa⟩ : ∃ wa, wa = (w.alloc (.cells #[.slice A n.length c] 24)).alloc (.cells #[.slice B m.length d] 24) := ⟨_, rfl⟩
  have ha0 : wa.cell? ⟨w.heap.size, 0, none⟩ = some (.slice A n.length c) := by
   rw [hwa, World.cell?_alloc_lt _ _ _ (by simp), World.cell?_alloc_new]; rfl
  have ha1 : wa.cell? ⟨w.heap.size + 1, 0, none⟩ = some (.slice B m.length d) := by
   rw [hwa, show w.heap.size + 1 = (w.alloc (.cells #[.slice A n.length c] 24)).heap.size by simp, World.cell?_alloc_new]; rfl
  have hba : Below w.heap.size w wa := by rw [hwa]; exact ((Below.refl _ _).alloc (Nat.le_refl _) _).alloc (by simp) _
  have hza : wa.heap.size = w.heap.size + 2 := by rw [hwa]; simp
  rw [← hwa]
  have HA0 := hide ha0
  have HA1 := hide ha1
  have HBA := hide hba
  have HZA := hide hza
  clear hwa ha0 ha1 hba hza
  go_loopw [16] (fun i wr => ∃ k : Nat, k ≤ m.length ∧ i = .int .i64 k ∧ Below wa.heap.size wa wr ∧ Hid (r = ((n.zip m).drop k).all fun p => sameR p.1 p.2)) (fun i _ => m.length - (intOf i).toNat)
  case atStart => exact ⟨0, by omega, rfl, Below.refl _ _, H0⟩
  case round =>
   obtain ⟨k, hk, rfl, hb, H⟩ := hrel
   have hbw := HBA.out.trans (hb.mono HBA.out.size)
   by_cases hlt : k < m.length
   ·obtain ⟨b1, o1, A1, c1, hA, hbS, d1, hsl1⟩ := K.out.rdnAt (i := k) (by omega)
    obtain ⟨b2, o2, A2, c2, hA2, hbS2, d2, hsl2⟩ := K2.out.rdnAt hlt
    subst hA hA2
    have hbS' : b1 < w.heap.size := hbS
    have hbS2' : b2 < w.heap.size := hbS2
    have hx1 := HS1.out (n[k]'(by omega)) (List.getElem_mem _)
    have hx2 := HS2.out m[k] (List.getElem_mem hlt)
    have HX := hide (show r = (sameR (n[k]'(by omega)) m[k] && ((n.zip m).drop (k + 1)).all fun p => sameR p.1 p.2) by
     rw [H.out, List.drop_eq_getElem_cons (show k < (n.zip m).length by rw [List.length_zip]; omega), List.getElem_zip]; rfl)
    obtain ⟨x, hx⟩ : ∃ x, n[k]'(by omega) = x := ⟨_, rfl⟩
    obtain ⟨y, hy⟩ : ∃ y, m[k] = y := ⟨_, rfl⟩
    rw [hx] at d1 hsl1 hx1 HX
    rw [hy] at d2 hsl2 hx2 HX
    obtain ⟨q, hq⟩ : ∃ q, sameR x y = q := ⟨_, rfl⟩
    rw [hq] at HX
    have e0 := cell_grows hb _ _ HA0.out
    have e1 := cell_grows hb _ _ HA1.out
    have e2 := (hbw.cell (p := ⟨b1, o1 + k, none⟩) hbS').trans d1
    have e3 := (hbw.cell (p := ⟨b2, o2 + k, none⟩) hbS2').trans d2
    have SC := hide (rsame_v x y _ _ _ _ q hq wr.drew ((Sl.ok RAttr.ok).below hsl1 hbw.drew) ((Sl.ok RAttr.ok).below hsl2 hbw.drew) hx1 hx2)
    have hk0 : (0 : Int) ≤ (k : Int) := by omega
    have hkn : (k : Int) < (n.length : Int) := by omega
    have hkm : (k : Int) < (m.length : Int) := by omega
    have HB := hide hb
    have HBW := hide hbw
    clear d1 d2 hsl1 hsl2 hx hy hq hx1 hx2 hb hbw
    go_wp2_with fail
    go_region_held3 (fun W => W.cell? ⟨w.heap.size, 0, none⟩ = some (.slice (some ⟨b1, o1, none⟩) n.length c) ∧ W.cell? ⟨w.heap.size + 1, 0, none⟩ = some (.slice (some ⟨b2, o2, none⟩) m.length d) ∧ W.cell? ⟨b1, o1 + k, none⟩ = some (.slice A1 x.length c1) ∧ W.cell? ⟨b2, o2 + k, none⟩ = some (.slice A2 y.length c2))
     (first | exact ⟨e0, e1, e2, e3⟩ | exact held4 hb9 e0 e1 e2 e3)
     (first | (go_at_call 133; refine SC.out.mono ?_; rintro e w9 ⟨rfl, hb9⟩))
    have HB9 := hide (HB.out.trans (((Below.refl wr.heap.size wr).drew.trans hb9).mono HB.out.size))
    have HBW9 := hide (HBW.out.trans (((Below.refl wr.heap.size wr).drew.trans hb9).mono HBW.out.size))
    clear hb9 e0 e1 e2 e3
    cases q
    ·have HY := hide (show r = false by rw [HX.out]; rfl)
     go_wp2_with fail
     go_ret
     exact ⟨ret_bool HY.out.symm, HBW9.out⟩
    ·have HY := hide (show r = ((n.zip m).drop (k + 1)).all fun p => sameR p.1 p.2 by rw [HX.out]; rfl)
     go_wp2_with fail
     go_roundw
     case rel => exact ⟨k + 1, by omega, by go_num, HB9.out, HY⟩
     case measure => simp [intOf]; omega
   ·have HX := hide (show r = true by rw [H.out, List.drop_of_length_le (by rw [List.length_zip]; omega)]; rfl)
    clear hb
    go_wp2_with fail
    go_ret
    exact ⟨ret_bool HX.out.symm, hbw⟩
 ·have HX := hide (show r = false by rw [← hr, withinN, decide_eq_false hl]; rfl)
  clear hr
  go_enter Tryz.func92, Tryz.ntmps92
  go_wp2_with fail
  go_ret
  exact ⟨ret_bool HX.out.symm, ((Below.refl _ _).alloc (Nat.le_refl _) _).alloc (by simp) _⟩
set_option maxHeartbeats 1000000 in
theorem MatchN_any (n m : Name) (A B : Option Addr) (c d : Nat) (w : World) (h : Sl RRdn 1 w (Lt w.heap.size) n [.slice A n.length c]) (h2 : Sl RRdn 1 w (Lt w.heap.size) m [.slice B m.length d]) (hs1 : SmallN n) (hs2 : SmallN m) :
  Calls Tryz.prog 101 #[.agg #[.slice A n.length c], .agg #[.slice B m.length d]] w fun e w' => e = .returned (.bool (matchN n m)) ∧ Below w.heap.size w w' := by
 obtain ⟨-, hnc, hcm⟩ := h.len_
 obtain ⟨-, hnc2, hcm2⟩ := h2.len_
 unfold maxLen at hcm hcm2
 by_cases hl : n.length = m.length
 ·have HE := hide (show matchN n m = withinN n m by rw [matchN, decide_eq_true hl]; rfl)
  rw [HE.out]
  have ht : ((n.length : Int) == (m.length : Int)) = true := by simp [hl]
  have hb2 : Below w.heap.size w ((w.alloc (.cells #[.slice A n.length c] 24)).alloc (.cells #[.slice B m.length d] 24)) := ((Below.refl _ _).alloc (Nat.le_refl _) _).alloc (by simp) _
  have WC := hide (Within_any n m A B c d _ ((Sl.ok RRdn.ok).below h hb2) ((Sl.ok RRdn.ok).below h2 hb2) hs1 hs2)
  have HB2 := hide hb2
  clear hl h h2 hs1 hs2 hb2
  go_enter Tryz.func101, Tryz.ntmps101
  go_wp2_with fail
  refine WC.out.mono ?_
  rintro e w5 ⟨rfl, hb5⟩
  go_wp2_with fail
  go_ret
  exact ⟨rfl, HB2.out.trans (hb5.mono (by simp; omega))⟩
 ·have HE := hide (show matchN n m = false by rw [matchN, decide_eq_false hl]; rfl)
  rw [HE.out]
  have ht : ((n.length : Int) == (m.length : Int)) = false := by rw [beq_eq_false_iff_ne]; omega
  clear hl h h2
  go_enter Tryz.func101, Tryz.ntmps101
  go_wp2_with fail
  go_ret
  exact ⟨rfl, ((Below.refl _ _).alloc (Nat.le_refl _) _).alloc (by simp) _⟩
set_option maxHeartbeats 1000000 in
theorem rMatchN_any (n m : Name) (A B : Option Addr) (c d : Nat) (w : World) (h : Sl RRdn 1 w (Lt w.heap.size) n [.slice A n.length c]) (h2 : Sl RRdn 1 w (Lt w.heap.size) m [.slice B m.length d]) (hs1 : SmallN n) (hs2 : SmallN m) :
  Calls Tryz.prog 54 #[.agg #[.slice A n.length c], .agg #[.slice B m.length d]] w fun e w' => e = .returned (.bool (matchN n m)) ∧ Below w.heap.size w w' := by
 obtain ⟨-, hnc, hcm⟩ := h.len_
 obtain ⟨-, hnc2, hcm2⟩ := h2.len_
 unfold maxLen at hcm hcm2
 by_cases hl : n.length = m.length
 ·have HE := hide (show matchN n m = withinN n m by rw [matchN, decide_eq_true hl]; rfl)
  rw [HE.out]
  have ht : ((n.length : Int) == (m.length : Int)) = true := by simp [hl]
  have hb2 : Below w.heap.size w ((w.alloc (.cells #[.slice A n.length c] 24)).alloc (.cells #[.slice B m.length d] 24)) := ((Below.refl _ _).alloc (Nat.le_refl _) _).alloc (by simp) _
  have WC := hide (rWithin_any n m A B c d _ ((Sl.ok RRdn.ok).below h hb2) ((Sl.ok RRdn.ok).below h2 hb2) hs1 hs2)
  have HB2 := hide hb2
  clear hl h h2 hs1 hs2 hb2
  go_enter Tryz.func54, Tryz.ntmps54
  go_wp2_with fail
  refine WC.out.mono ?_
  rintro e w5 ⟨rfl, hb5⟩
  go_wp2_with fail
  go_ret
  exact ⟨rfl, HB2.out.trans (hb5.mono (by simp; omega))⟩
 ·have HE := hide (show matchN n m = false by rw [matchN, decide_eq_false hl]; rfl)
  rw [HE.out]
  have ht : ((n.length : Int) == (m.length : Int)) = false := by rw [beq_eq_false_iff_ne]; omega
  clear hl h h2
  go_enter Tryz.func54, Tryz.ntmps54
  go_wp2_with fail
  go_ret
  exact ⟨rfl, ((Below.refl _ _).alloc (Nat.le_refl _) _).alloc (by simp) _⟩
end Go.Proofs.YtmgnihmjjijdoaaGreatDoor
namespace Go.Proofs.YtmgnihmjjijdoaaGreatDoor
open Go.RowKit
abbrev Short := List UInt8 × List UInt8
def shortC (p : Short) : List Value := [.string ⟨p.1.toArray⟩, .string ⟨p.2.toArray⟩]
def shortTab : List Short := [([67, 78], [50, 46, 53, 46, 52, 46, 51]), ([67], [50, 46, 53, 46, 52, 46, 54]), ([76], [50, 46, 53, 46, 52, 46, 55]), ([79], [50, 46, 53, 46, 52, 46, 49, 48]), ([79, 85], [50, 46, 53, 46, 52, 46, 49, 49]), ([68, 67], [48, 46, 57, 46, 50, 51, 52, 50, 46, 49, 57, 50, 48, 48, 51, 48, 48, 46, 49, 48, 48, 46, 49, 46, 50, 53]), ([69], [49, 46, 50, 46, 56, 52, 48, 46, 49, 49, 51, 53, 52, 57, 46, 49, 46, 57, 46, 49])]
def oidDC : List UInt8 := [48, 46, 57, 46, 50, 51, 52, 50, 46, 49, 57, 50, 48, 48, 51, 48, 48, 46, 49, 48, 48, 46, 49, 46, 50, 53]
def oidE : List UInt8 := [49, 46, 50, 46, 56, 52, 48, 46, 49, 49, 51, 53, 52, 57, 46, 49, 46, 57, 46, 49]
def shortL : List Short → List UInt8 → List UInt8
 | [], id => id
 | p :: r, id => if p.1 = id then p.2 else shortL r id
theorem shortL_len : ∀ (l : List Short) (id : List UInt8), (∀ p ∈ l, p.2.length ≤ 1000) → id.length ≤ 100000 → (shortL l id).length ≤ 100000
  | [], _, _, h => h
  | p :: r, id, hp, h => by
    rw [shortL]
    split
    · have := hp p (by simp); omega
    · exact shortL_len r id (fun q hq => hp q (by simp [hq])) h
theorem sl_new {α : Type} {f : α → List Value} {size : Nat} (hf : ∀ x, (f x).length = size) (w : World) (C : Array Value) (t : TypeId) (l : List α) (hC : C.toList = l.flatMap f) (hl : l.length ≤ maxLen) :
  Sl (Pu f) size (w.alloc (.cells C t)) (Lt (w.alloc (.cells C t)).heap.size) l [.slice (some ⟨w.heap.size, 0, none⟩) l.length l.length] := by
 refine ⟨_, _, rfl, Nat.le_refl _, hl, fun _ => ⟨w.heap.size, 0, rfl, by show _ < _; simp, fun i x hx => ?_⟩⟩
 obtain ⟨cs, h1, h2⟩ := news_pu hf w (Lt (w.alloc (.cells C t)).heap.size) C t l hC i x hx
 refine ⟨cs, h1, fun j u hu => ?_⟩
 have := h2 j u hu
 rw [Addr.add_lit] at this
 exact this
set_option maxHeartbeats 1000000 in
theorem shorts_any (w : World) : Calls Tryz.prog 64 #[] w fun e w' => ∃ g, e = .returned (.slice (some ⟨g, 0, none⟩) 7 7) ∧ Below w.heap.size w w' ∧ Sl (Pu shortC) 2 w' (Lt w'.heap.size) shortTab [.slice (some ⟨g, 0, none⟩) 7 7] := by
 have hs := fun C t (h : C.toList = shortTab.flatMap shortC) => sl_new (f := shortC) (size := 2) (fun _ => rfl) w C t shortTab h (by simp [shortTab, maxLen])
 have HS := hide hs
 clear hs
 go_enter Tryz.func64, Tryz.ntmps64
 go_wp2_with fail
 go_ret
 exact ⟨_, rfl, (Below.refl _ _).alloc (Nat.le_refl _) _, HS.out _ _ rfl⟩
theorem cut_v (s : ByteArray) (hs : s.size ≤ 1000000) (c : UInt8) (w : World) (hmx : Mx w) (a b : ByteArray) (f : Bool) (ha : a.data.toList = (Lib.cut s.data.toList [c]).1) (hb : b.data.toList = (Lib.cut s.data.toList [c]).2.1) (hf : (Lib.cut s.data.toList [c]).2.2 = f) :
  Calls Tryz.prog 97 #[.string s, .string ⟨#[c]⟩] w fun e w' => e = .returned (.tuple #[.string a, .string b, .bool f]) ∧ ∃ n, w' = w.drewN n := by
 obtain ⟨m, hm⟩ := hmx
 refine (Tryz.strings_Cut s ⟨#[c]⟩ m w (by omega) hm).mono fun e w' ⟨he, hw⟩ => ⟨?_, hw⟩
 rw [he]
 show Ending.returned (.tuple #[.string ⟨(Lib.cut s.data.toList [c]).1.toArray⟩, .string ⟨(Lib.cut s.data.toList [c]).2.1.toArray⟩, .bool (Lib.cut s.data.toList [c]).2.2]) = _
 rw [← ha, ← hb, hf]
def cutL (w : List UInt8) : List UInt8 × List UInt8 × Bool := Lib.cut w [61]
def kindA (id v : List UInt8) : Int := if id = oidDC ∨ id = oidE then 22 else if validT 19 v = true then 19 else 12
def parseA (w : List UInt8) : Option Attr :=
 if (cutL w).2.2 = false then none else
 (unesc (cutL w).2.1).bind fun v => if validB (shortL shortTab (cutL w).1) = true then some (shortL shortTab (cutL w).1, kindA (shortL shortTab (cutL w).1) v, v) else none
def noAttV : Value := .agg #[.string ⟨#[]⟩, .int .i64 0, .string ⟨#[]⟩]
def parR (o : Option Attr) : Value := match o with | none => .tuple #[noAttV, .bool false] | some a => .tuple #[attV a, .bool true]
end Go.Proofs.YtmgnihmjjijdoaaGreatDoor
namespace Go.Proofs.YtmgnihmjjijdoaaGreatDoor
open Go.RowKit
def ResAtt (g : Nat) (W : World) : Prop := W.heap[g]? = some (.cells #[.string ⟨#[]⟩, .int .i64 0, .string ⟨#[]⟩] 84 (0, 0))
theorem ResAtt.facts {g : Nat} {W : World} (h : ResAtt g W) : W.cell? ⟨g, 0, none⟩ = some (.string ⟨#[]⟩) ∧ W.cell? ⟨g, 1, none⟩ = some (.int .i64 0) ∧ W.cell? ⟨g, 2, none⟩ = some (.string ⟨#[]⟩) ∧
  W.frozen? ⟨g, 0, none⟩ = false ∧ W.frozen? ⟨g, 1, none⟩ = false ∧ W.frozen? ⟨g, 2, none⟩ = false := by
 unfold ResAtt at h
 simp [World.cell?, World.frozen?, h]
theorem ResAtt.below {g : Nat} {W W' : World} (h : ResAtt g W) (hb : Below W.heap.size W W') : ResAtt g W' := by
 have hlt : g < W.heap.size := (Array.getElem?_eq_some_iff.1 h).1
 exact (hb.block g hlt).trans h
theorem ResAtt.store {g : Nat} {W : World} (h : ResAtt g W) (a b c : Value) :
  (((W.setCell ⟨g, 0, none⟩ a).setCell ⟨g, 1, none⟩ b).setCell ⟨g, 2, none⟩ c).cell? ⟨g, 0, none⟩ = some a ∧ (((W.setCell ⟨g, 0, none⟩ a).setCell ⟨g, 1, none⟩ b).setCell ⟨g, 2, none⟩ c).cell? ⟨g, 1, none⟩ = some b ∧
  (((W.setCell ⟨g, 0, none⟩ a).setCell ⟨g, 1, none⟩ b).setCell ⟨g, 2, none⟩ c).cell? ⟨g, 2, none⟩ = some c := by
 unfold ResAtt at h
 simp [World.cell?, World.setCell, Array.getElem?_modify, h]
theorem below_store3 {B g : Nat} {w W : World} (h : Below B w W) (hg : B ≤ g) (a b c : Value) : Below B w (((W.setCell ⟨g, 0, none⟩ a).setCell ⟨g, 1, none⟩ b).setCell ⟨g, 2, none⟩ c) :=
 ((h.setCell (p := ⟨g, 0, none⟩) hg a).setCell (p := ⟨g, 1, none⟩) hg b).setCell (p := ⟨g, 2, none⟩) hg c
theorem cut_len (s : List UInt8) : (cutL s).1.length ≤ s.length ∧ (cutL s).2.1.length ≤ s.length := by
 unfold cutL Lib.cut
 split
 ·simp; omega
 ·simp
theorem unesc_len {l o : List UInt8} (h : unesc l = some o) : o.length ≤ l.length := by
 have h1 := (unesc_iff l o).1 h
 have h2 := esc_len o
 rw [h1] at h2
 exact h2
set_option maxRecDepth 100000 in
set_option maxHeartbeats 16000000 in
theorem parseAtt_any (s : ByteArray) (hs : s.size ≤ 100000) (w : World) (hmx : Mx w) :
    Calls Tryz.prog 74 #[.string s] w fun e w' => e = .returned (parR (parseA s.data.toList)) ∧ Below w.heap.size w w' := by
  have HMX := hide hmx
  obtain ⟨r, hr⟩ : ∃ r, parseA s.data.toList = r := ⟨_, rfl⟩
  rw [hr]
  obtain ⟨C, hC⟩ : ∃ C, cutL s.data.toList = C := ⟨_, rfl⟩
  obtain ⟨hl1, hl2⟩ := cut_len s.data.toList
  rw [hC, size_string] at hl1 hl2
  have HR := hide (show r = if C.2.2 = false then none else (unesc C.2.1).bind fun v => if validB (shortL shortTab C.1) = true then some (shortL shortTab C.1, kindA (shortL shortTab C.1) v, v) else none by rw [← hr, parseA, hC])
  obtain ⟨ia, hia⟩ : ∃ ia : ByteArray, ia = ⟨C.1.toArray⟩ := ⟨_, rfl⟩
  obtain ⟨ib, hib⟩ : ∃ ib : ByteArray, ib = ⟨C.2.1.toArray⟩ := ⟨_, rfl⟩
  have hia2 : ia.data.toList = C.1 := by rw [hia]
  have hib2 : ib.data.toList = C.2.1 := by rw [hib]
  have hias : ia.size ≤ 100000 := by rw [← size_string, hia2]; omega
  have hibs : ib.size ≤ 100000 := by rw [← size_string, hib2]; omega
  obtain ⟨f, hf⟩ : ∃ f, C.2.2 = f := ⟨_, rfl⟩
  have CUT := hide (fun W hm => cut_v s (by omega) 61 W hm ia ib f (by rw [hia2]; exact congrArg (·.1) hC.symm) (by rw [hib2]; exact congrArg (·.2.1) hC.symm) (by rw [← hf]; exact congrArg (·.2.2) hC))
  rw [← hia2, ← hib2, hf] at HR
  clear hmx hr hC hl1 hl2 hia hib hia2 hib2 hf
  go_enter Tryz.func74, Tryz.ntmps74
  go_wp2_with fail
  have hres : ResAtt w.heap.size (w.alloc (.cells #[.string ⟨#[]⟩, .int .i64 0, .string ⟨#[]⟩] 84)) := heap_alloc_new w _
  have hb0 : Below w.heap.size w (w.alloc (.cells #[.string ⟨#[]⟩, .int .i64 0, .string ⟨#[]⟩] 84)) := (Below.refl _ _).alloc (Nat.le_refl _) _
  refine (CUT.out _ (HMX.out.below hb0)).mono ?_
  rintro e w1 ⟨rfl, nn, hw1⟩
  have hb1 : Below w.heap.size w w1 := by rw [hw1]; exact below_drewN hb0 nn
  have hr1 : ResAtt w.heap.size w1 := by rw [hw1]; exact hres
  have hg1 : w.heap.size < w1.heap.size := by rw [hw1]; show w.heap.size < (w.alloc _).heap.size; simp
  have HB1 := hide hb1
  have HR1 := hide hr1
  clear hres hb0 hw1 hb1 hr1
  cases f
  · have HN := hide (show r = none by rw [HR.out, if_pos rfl])
    obtain ⟨r0, r1, r2, f0, f1, f2⟩ := HR1.out.facts
    go_wp2_with fail
    obtain ⟨q0, q1, q2⟩ := HR1.out.store (.string ⟨#[]⟩) (.int .i64 0) (.string ⟨#[]⟩)
    have hbz := below_store3 HB1.out (Nat.le_refl w.heap.size) (.string ⟨#[]⟩) (.int .i64 0) (.string ⟨#[]⟩)
    obtain ⟨W3, hW3⟩ : ∃ W3, W3 = ((w1.setCell ⟨w.heap.size, 0, none⟩ (.string ⟨#[]⟩)).setCell ⟨w.heap.size, 1, none⟩ (.int .i64 0)).setCell ⟨w.heap.size, 2, none⟩ (.string ⟨#[]⟩) := ⟨_, rfl⟩
    rw [← hW3] at q0 q1 q2 hbz ⊢
    exact bodyPost_ret (v := .tuple #[.agg #[(.string ⟨#[]⟩), (.int .i64 0), (.string ⟨#[]⟩)], .bool false]) (by simp [results, Tryz.results74, go_sem, q0, q1, q2]) rfl ⟨by rw [HN.out]; rfl, hbz⟩
  · have HR2 := hide (show r = (unesc ib.data.toList).bind fun v => if validB (shortL shortTab ia.data.toList) = true then some (shortL shortTab ia.data.toList, kindA (shortL shortTab ia.data.toList) v, v) else none from HR.out.trans (if_neg (by simp)))
    go_wp2_with fail
    refine (shorts_any _).mono ?_
    rintro e w2 ⟨g, rfl, hb2, hsh⟩
    have HB2 := hide (HB1.out.trans (hb2.mono HB1.out.size))
    have HRA2 := hide (HR1.out.below hb2)
    have HSH := hide hsh
    clear hb2 hsh
    go_wp2_with fail
    go_loopw [4, 22] (fun x4 i wr => ∃ k : Nat, k ≤ 7 ∧ x4 = .string ia ∧ i = .int .i64 k ∧ Below w2.heap.size w2 wr ∧ Hid (shortL shortTab ia.data.toList = shortL (shortTab.drop k) ia.data.toList)) (fun _ i _ => 7 - (intOf i).toNat)
    case atStart => exact ⟨0, by omega, rfl, rfl, Below.refl _ _, hide rfl⟩
    case round =>
      obtain ⟨k, hk, rfl, rfl, hb, H⟩ := hrel
      have HBr := hide (HB2.out.trans (hb.mono HB2.out.size))
      have HRr := hide (HRA2.out.below hb)
      by_cases hlt : k < 7
      · obtain ⟨bk, off, xs, hA, hbS, hx, hcell⟩ := HSH.out.at_ (i := k) hlt
        cases hA
        obtain ⟨p, hp⟩ : ∃ p, shortTab[k]'hlt = p := ⟨_, rfl⟩
        rw [hp] at hx
        have hxs : xs = shortC p := hx
        subst hxs
        have hpl : p.2.length ≤ 1000 := by
          have : ∀ q ∈ shortTab, q.2.length ≤ 1000 := by decide
          exact this p (hp ▸ List.getElem_mem hlt)
        obtain ⟨pw, hpw⟩ : ∃ pw : ByteArray, pw = ⟨p.1.toArray⟩ := ⟨_, rfl⟩
        obtain ⟨id, hid⟩ : ∃ id : ByteArray, id = ⟨p.2.toArray⟩ := ⟨_, rfl⟩
        have hpw2 : p.1 = pw.data.toList := by rw [hpw]
        have hid2 : p.2 = id.data.toList := by rw [hid]
        have c0 := hcell 0 (.string pw) (by rw [hpw]; rfl)
        have c1 := hcell 1 (.string id) (by rw [hid]; rfl)
        have hbS' : g < w2.heap.size := hbS
        have d0 : wr.cell? ⟨g, k * 2, none⟩ = some (.string pw) := (hb.cell hbS').trans (by simpa using c0)
        have d1 : wr.cell? ⟨g, k * 2 + 1, none⟩ = some (.string id) := (hb.cell hbS').trans (by simpa using c1)
        have HX := hide (show shortL shortTab ia.data.toList = if pw.data.toList = ia.data.toList then id.data.toList else shortL (shortTab.drop (k + 1)) ia.data.toList by
          rw [H.out, List.drop_eq_getElem_cons (show k < shortTab.length from hlt), show shortTab[k] = p from hp, shortL, hpw2, hid2])
        rw [hid2, size_string] at hpl
        have hsz := hb.size
        have HB := hide hb
        clear hcell hx hp hpw hid hpw2 hid2 c0 c1 hb
        by_cases heq : pw.toList = ia.toList
        · have heq1 : (pw.toList == ia.toList) = true := by simpa using heq
          have HID := hide (HX.out.trans (if_pos ((str_eq pw ia).1 heq)))
          have HBr := hide (HBr.out.alloc HBr.out.size (.cells #[.string pw, .string id] 95))
          have HRr := hide (HRr.out.below ((Below.refl wr.heap.size wr).alloc (Nat.le_refl _) (.cells #[.string pw, .string id] 95)))
          clear H
          go_wp2_with fail
          refine (Unescape_any ib (by omega) _).mono ?_
          rintro e w5 ⟨rfl, hb5⟩
          have HB5 := hide (HBr.out.trans (hb5.mono HBr.out.size))
          have HR5 := hide (HRr.out.below hb5)
          clear hb5
          obtain ⟨o, ho⟩ : ∃ o, unesc ib.data.toList = o := ⟨_, rfl⟩
          rw [ho]
          have HO := hide ho
          clear ho
          cases o with
          | none =>
            have HN := hide (show r = none by rw [HR2.out, HO.out]; rfl)
            rw [show optR none = .tuple #[.string ⟨#[]⟩, .bool false] from rfl]
            obtain ⟨r0, r1, r2, f0, f1, f2⟩ := HR5.out.facts
            go_wp2_with fail
            obtain ⟨q0, q1, q2⟩ := HR5.out.store (.string ⟨#[]⟩) (.int .i64 0) (.string ⟨#[]⟩)
            have hbz := below_store3 HB5.out (Nat.le_refl w.heap.size) (.string ⟨#[]⟩) (.int .i64 0) (.string ⟨#[]⟩)
            obtain ⟨W3, hW3⟩ : ∃ W3, W3 = ((w5.setCell ⟨w.heap.size, 0, none⟩ (.string ⟨#[]⟩)).setCell ⟨w.heap.size, 1, none⟩ (.int .i64 0)).setCell ⟨w.heap.size, 2, none⟩ (.string ⟨#[]⟩) := ⟨_, rfl⟩
            rw [← hW3] at q0 q1 q2 hbz ⊢
            exact bodyPost_ret (v := .tuple #[.agg #[(.string ⟨#[]⟩), (.int .i64 0), (.string ⟨#[]⟩)], .bool false]) (by simp [results, Tryz.results74, go_sem, q0, q1, q2]) rfl ⟨by rw [HN.out]; rfl, hbz⟩
          | some v =>
            have hvl := unesc_len HO.out
            rw [show optR (some v) = .tuple #[.string ⟨v.toArray⟩, .bool true] from rfl]
            obtain ⟨va, hva⟩ : ∃ va : ByteArray, va = ⟨v.toArray⟩ := ⟨_, rfl⟩
            have hva2 : v = va.data.toList := by rw [hva]
            rw [hva2, size_string, size_string] at hvl
            have HVA := hide hva2
            rw [← hva]
            obtain ⟨p, hp⟩ : ∃ p, validB id.data.toList = p := ⟨_, rfl⟩
            have HP := hide hp
            clear hva hva2 hp
            go_wp2_with fail
            refine (oid_v id (by omega) p HP.out _ (HMX.out.below HB5.out)).mono ?_
            rintro e w6 ⟨rfl, hb6⟩
            have HB6 := hide (HB5.out.trans (hb6.mono HB5.out.size))
            have HR6 := hide (HR5.out.below hb6)
            clear hb6
            cases p
            · have HN := hide (show r = none by rw [HR2.out, HO.out, HID.out, Option.bind_some, HP.out]; rfl)
              obtain ⟨r0, r1, r2, f0, f1, f2⟩ := HR6.out.facts
              go_wp2_with fail
              obtain ⟨q0, q1, q2⟩ := HR6.out.store (.string ⟨#[]⟩) (.int .i64 0) (.string ⟨#[]⟩)
              have hbz := below_store3 HB6.out (Nat.le_refl w.heap.size) (.string ⟨#[]⟩) (.int .i64 0) (.string ⟨#[]⟩)
              obtain ⟨W3, hW3⟩ : ∃ W3, W3 = ((w6.setCell ⟨w.heap.size, 0, none⟩ (.string ⟨#[]⟩)).setCell ⟨w.heap.size, 1, none⟩ (.int .i64 0)).setCell ⟨w.heap.size, 2, none⟩ (.string ⟨#[]⟩) := ⟨_, rfl⟩
              rw [← hW3] at q0 q1 q2 hbz ⊢
              exact bodyPost_ret (v := .tuple #[.agg #[(.string ⟨#[]⟩), (.int .i64 0), (.string ⟨#[]⟩)], .bool false]) (by simp [results, Tryz.results74, go_sem, q0, q1, q2]) rfl ⟨by rw [HN.out]; rfl, hbz⟩
            · have HS := hide (show r = some (id.data.toList, kindA id.data.toList v, v) by rw [HR2.out, HO.out, HID.out, Option.bind_some, HP.out, if_pos rfl])
              rw [HVA.out] at HS
              by_cases h1 : id.data.toList = oidDC
              · have t1 : (id.toList == oidDC) = true := by rw [ByteArray.toList_eq, h1]; rfl
                have t2 : id.toList = oidDC := by rw [ByteArray.toList_eq, h1]
                have HK := hide (show kindA id.data.toList va.data.toList = 22 by rw [kindA, if_pos (.inl h1)])
                clear h1
                unfold oidDC at t1 t2
                obtain ⟨r0, r1, r2, f0, f1, f2⟩ := HR6.out.facts
                go_wp2_with fail
                obtain ⟨q0, q1, q2⟩ := HR6.out.store (.string id) (.int .i64 22) (.string va)
                have hbz := below_store3 HB6.out (Nat.le_refl w.heap.size) (.string id) (.int .i64 22) (.string va)
                obtain ⟨W3, hW3⟩ : ∃ W3, W3 = ((w6.setCell ⟨w.heap.size, 0, none⟩ (.string id)).setCell ⟨w.heap.size, 1, none⟩ (.int .i64 22)).setCell ⟨w.heap.size, 2, none⟩ (.string va) := ⟨_, rfl⟩
                rw [← hW3] at q0 q1 q2 hbz ⊢
                exact bodyPost_ret (v := .tuple #[.agg #[(.string id), (.int .i64 22), (.string va)], .bool true]) (by simp [results, Tryz.results74, go_sem, q0, q1, q2]) rfl ⟨by rw [HS.out, HK.out]; rfl, hbz⟩
              · have t1 : (id.toList == oidDC) = false := by rw [ByteArray.toList_eq]; simpa using h1
                have t2 : ¬ id.toList = oidDC := by rw [ByteArray.toList_eq]; exact h1
                by_cases h2 : id.data.toList = oidE
                · have t3 : (id.toList == oidE) = true := by rw [ByteArray.toList_eq, h2]; rfl
                  have t4 : id.toList = oidE := by rw [ByteArray.toList_eq, h2]
                  have HK := hide (show kindA id.data.toList va.data.toList = 22 by rw [kindA, if_pos (.inr h2)])
                  clear h1 h2 t1 t2
                  unfold oidE at t3 t4
                  obtain ⟨r0, r1, r2, f0, f1, f2⟩ := HR6.out.facts
                  go_wp2_with fail
                  obtain ⟨q0, q1, q2⟩ := HR6.out.store (.string id) (.int .i64 22) (.string va)
                  have hbz := below_store3 HB6.out (Nat.le_refl w.heap.size) (.string id) (.int .i64 22) (.string va)
                  obtain ⟨W3, hW3⟩ : ∃ W3, W3 = ((w6.setCell ⟨w.heap.size, 0, none⟩ (.string id)).setCell ⟨w.heap.size, 1, none⟩ (.int .i64 22)).setCell ⟨w.heap.size, 2, none⟩ (.string va) := ⟨_, rfl⟩
                  rw [← hW3] at q0 q1 q2 hbz ⊢
                  exact bodyPost_ret (v := .tuple #[.agg #[(.string id), (.int .i64 22), (.string va)], .bool true]) (by simp [results, Tryz.results74, go_sem, q0, q1, q2]) rfl ⟨by rw [HS.out, HK.out]; rfl, hbz⟩
                · have t3 : (id.toList == oidE) = false := by rw [ByteArray.toList_eq]; simpa using h2
                  have t4 : ¬ id.toList = oidE := by rw [ByteArray.toList_eq]; exact h2
                  obtain ⟨q, hq⟩ : ∃ q, validT 19 va.data.toList = q := ⟨_, rfl⟩
                  have HK := hide (show kindA id.data.toList va.data.toList = if q = true then 19 else 12 by rw [kindA, if_neg (by rintro (h | h); exact h1 h; exact h2 h), hq])
                  have HQ := hide hq
                  clear h1 h2 hq
                  unfold oidDC at t1 t2
                  unfold oidE at t3 t4
                  go_wp2_with fail
                  refine (text_v 19 va (by omega) q HQ.out _).mono ?_
                  rintro e w7 ⟨rfl, hb7⟩
                  have HB7 := hide (HB6.out.trans (hb7.mono HB6.out.size))
                  have HR7 := hide (HR6.out.below hb7)
                  clear hb7
                  cases q
                  · obtain ⟨r0, r1, r2, f0, f1, f2⟩ := HR7.out.facts
                    go_wp2_with fail
                    obtain ⟨q0, q1, q2⟩ := HR7.out.store (.string id) (.int .i64 12) (.string va)
                    have hbz := below_store3 HB7.out (Nat.le_refl w.heap.size) (.string id) (.int .i64 12) (.string va)
                    obtain ⟨W3, hW3⟩ : ∃ W3, W3 = ((w7.setCell ⟨w.heap.size, 0, none⟩ (.string id)).setCell ⟨w.heap.size, 1, none⟩ (.int .i64 12)).setCell ⟨w.heap.size, 2, none⟩ (.string va) := ⟨_, rfl⟩
                    rw [← hW3] at q0 q1 q2 hbz ⊢
                    exact bodyPost_ret (v := .tuple #[.agg #[(.string id), (.int .i64 12), (.string va)], .bool true]) (by simp [results, Tryz.results74, go_sem, q0, q1, q2]) rfl ⟨by rw [HS.out, HK.out]; rfl, hbz⟩
                  · obtain ⟨r0, r1, r2, f0, f1, f2⟩ := HR7.out.facts
                    go_wp2_with fail
                    obtain ⟨q0, q1, q2⟩ := HR7.out.store (.string id) (.int .i64 19) (.string va)
                    have hbz := below_store3 HB7.out (Nat.le_refl w.heap.size) (.string id) (.int .i64 19) (.string va)
                    obtain ⟨W3, hW3⟩ : ∃ W3, W3 = ((w7.setCell ⟨w.heap.size, 0, none⟩ (.string id)).setCell ⟨w.heap.size, 1, none⟩ (.int .i64 19)).setCell ⟨w.heap.size, 2, none⟩ (.string va) := ⟨_, rfl⟩
                    rw [← hW3] at q0 q1 q2 hbz ⊢
                    exact bodyPost_ret (v := .tuple #[.agg #[(.string id), (.int .i64 19), (.string va)], .bool true]) (by simp [results, Tryz.results74, go_sem, q0, q1, q2]) rfl ⟨by rw [HS.out, HK.out]; rfl, hbz⟩
        · have heq1 : (pw.toList == ia.toList) = false := by simpa using heq
          have HY := hide (HX.out.trans (if_neg (fun e => heq ((str_eq pw ia).2 e))))
          go_wp2_with fail
          go_roundw
          case rel => exact ⟨k + 1, by omega, rfl, by go_num, HB.out.alloc hsz _, HY⟩
          case measure => simp [intOf]; omega
      · have HID := hide (show shortL shortTab ia.data.toList = ia.data.toList by rw [H.out, List.drop_of_length_le (by show 7 ≤ k; omega)]; rfl)
        obtain ⟨id, rfl⟩ : ∃ id, id = ia := ⟨_, rfl⟩
        clear hb H
        go_wp2_with fail
        refine (Unescape_any ib (by omega) _).mono ?_
        rintro e w5 ⟨rfl, hb5⟩
        have HB5 := hide (HBr.out.trans (hb5.mono HBr.out.size))
        have HR5 := hide (HRr.out.below hb5)
        clear hb5
        obtain ⟨o, ho⟩ : ∃ o, unesc ib.data.toList = o := ⟨_, rfl⟩
        rw [ho]
        have HO := hide ho
        clear ho
        cases o with
        | none =>
          have HN := hide (show r = none by rw [HR2.out, HO.out]; rfl)
          rw [show optR none = .tuple #[.string ⟨#[]⟩, .bool false] from rfl]
          obtain ⟨r0, r1, r2, f0, f1, f2⟩ := HR5.out.facts
          go_wp2_with fail
          obtain ⟨q0, q1, q2⟩ := HR5.out.store (.string ⟨#[]⟩) (.int .i64 0) (.string ⟨#[]⟩)
          have hbz := below_store3 HB5.out (Nat.le_refl w.heap.size) (.string ⟨#[]⟩) (.int .i64 0) (.string ⟨#[]⟩)
          obtain ⟨W3, hW3⟩ : ∃ W3, W3 = ((w5.setCell ⟨w.heap.size, 0, none⟩ (.string ⟨#[]⟩)).setCell ⟨w.heap.size, 1, none⟩ (.int .i64 0)).setCell ⟨w.heap.size, 2, none⟩ (.string ⟨#[]⟩) := ⟨_, rfl⟩
          rw [← hW3] at q0 q1 q2 hbz ⊢
          exact bodyPost_ret (v := .tuple #[.agg #[(.string ⟨#[]⟩), (.int .i64 0), (.string ⟨#[]⟩)], .bool false]) (by simp [results, Tryz.results74, go_sem, q0, q1, q2]) rfl ⟨by rw [HN.out]; rfl, hbz⟩
        | some v =>
          have hvl := unesc_len HO.out
          rw [show optR (some v) = .tuple #[.string ⟨v.toArray⟩, .bool true] from rfl]
          obtain ⟨va, hva⟩ : ∃ va : ByteArray, va = ⟨v.toArray⟩ := ⟨_, rfl⟩
          have hva2 : v = va.data.toList := by rw [hva]
          rw [hva2, size_string, size_string] at hvl
          have HVA := hide hva2
          rw [← hva]
          obtain ⟨p, hp⟩ : ∃ p, validB id.data.toList = p := ⟨_, rfl⟩
          have HP := hide hp
          clear hva hva2 hp
          go_wp2_with fail
          refine (oid_v id (by omega) p HP.out _ (HMX.out.below HB5.out)).mono ?_
          rintro e w6 ⟨rfl, hb6⟩
          have HB6 := hide (HB5.out.trans (hb6.mono HB5.out.size))
          have HR6 := hide (HR5.out.below hb6)
          clear hb6
          cases p
          · have HN := hide (show r = none by rw [HR2.out, HO.out, HID.out, Option.bind_some, HP.out]; rfl)
            obtain ⟨r0, r1, r2, f0, f1, f2⟩ := HR6.out.facts
            go_wp2_with fail
            obtain ⟨q0, q1, q2⟩ := HR6.out.store (.string ⟨#[]⟩) (.int .i64 0) (.string ⟨#[]⟩)
            have hbz := below_store3 HB6.out (Nat.le_refl w.heap.size) (.string ⟨#[]⟩) (.int .i64 0) (.string ⟨#[]⟩)
            obtain ⟨W3, hW3⟩ : ∃ W3, W3 = ((w6.setCell ⟨w.heap.size, 0, none⟩ (.string ⟨#[]⟩)).setCell ⟨w.heap.size, 1, none⟩ (.int .i64 0)).setCell ⟨w.heap.size, 2, none⟩ (.string ⟨#[]⟩) := ⟨_, rfl⟩
            rw [← hW3] at q0 q1 q2 hbz ⊢
            exact bodyPost_ret (v := .tuple #[.agg #[(.string ⟨#[]⟩), (.int .i64 0), (.string ⟨#[]⟩)], .bool false]) (by simp [results, Tryz.results74, go_sem, q0, q1, q2]) rfl ⟨by rw [HN.out]; rfl, hbz⟩
          · have HS := hide (show r = some (id.data.toList, kindA id.data.toList v, v) by rw [HR2.out, HO.out, HID.out, Option.bind_some, HP.out, if_pos rfl])
            rw [HVA.out] at HS
            by_cases h1 : id.data.toList = oidDC
            · have t1 : (id.toList == oidDC) = true := by rw [ByteArray.toList_eq, h1]; rfl
              have t2 : id.toList = oidDC := by rw [ByteArray.toList_eq, h1]
              have HK := hide (show kindA id.data.toList va.data.toList = 22 by rw [kindA, if_pos (.inl h1)])
              clear h1
              unfold oidDC at t1 t2
              obtain ⟨r0, r1, r2, f0, f1, f2⟩ := HR6.out.facts
              go_wp2_with fail
              obtain ⟨q0, q1, q2⟩ := HR6.out.store (.string id) (.int .i64 22) (.string va)
              have hbz := below_store3 HB6.out (Nat.le_refl w.heap.size) (.string id) (.int .i64 22) (.string va)
              obtain ⟨W3, hW3⟩ : ∃ W3, W3 = ((w6.setCell ⟨w.heap.size, 0, none⟩ (.string id)).setCell ⟨w.heap.size, 1, none⟩ (.int .i64 22)).setCell ⟨w.heap.size, 2, none⟩ (.string va) := ⟨_, rfl⟩
              rw [← hW3] at q0 q1 q2 hbz ⊢
              exact bodyPost_ret (v := .tuple #[.agg #[(.string id), (.int .i64 22), (.string va)], .bool true]) (by simp [results, Tryz.results74, go_sem, q0, q1, q2]) rfl ⟨by rw [HS.out, HK.out]; rfl, hbz⟩
            · have t1 : (id.toList == oidDC) = false := by rw [ByteArray.toList_eq]; simpa using h1
              have t2 : ¬ id.toList = oidDC := by rw [ByteArray.toList_eq]; exact h1
              by_cases h2 : id.data.toList = oidE
              · have t3 : (id.toList == oidE) = true := by rw [ByteArray.toList_eq, h2]; rfl
                have t4 : id.toList = oidE := by rw [ByteArray.toList_eq, h2]
                have HK := hide (show kindA id.data.toList va.data.toList = 22 by rw [kindA, if_pos (.inr h2)])
                clear h1 h2 t1 t2
                unfold oidE at t3 t4
                obtain ⟨r0, r1, r2, f0, f1, f2⟩ := HR6.out.facts
                go_wp2_with fail
                obtain ⟨q0, q1, q2⟩ := HR6.out.store (.string id) (.int .i64 22) (.string va)
                have hbz := below_store3 HB6.out (Nat.le_refl w.heap.size) (.string id) (.int .i64 22) (.string va)
                obtain ⟨W3, hW3⟩ : ∃ W3, W3 = ((w6.setCell ⟨w.heap.size, 0, none⟩ (.string id)).setCell ⟨w.heap.size, 1, none⟩ (.int .i64 22)).setCell ⟨w.heap.size, 2, none⟩ (.string va) := ⟨_, rfl⟩
                rw [← hW3] at q0 q1 q2 hbz ⊢
                exact bodyPost_ret (v := .tuple #[.agg #[(.string id), (.int .i64 22), (.string va)], .bool true]) (by simp [results, Tryz.results74, go_sem, q0, q1, q2]) rfl ⟨by rw [HS.out, HK.out]; rfl, hbz⟩
              · have t3 : (id.toList == oidE) = false := by rw [ByteArray.toList_eq]; simpa using h2
                have t4 : ¬ id.toList = oidE := by rw [ByteArray.toList_eq]; exact h2
                obtain ⟨q, hq⟩ : ∃ q, validT 19 va.data.toList = q := ⟨_, rfl⟩
                have HK := hide (show kindA id.data.toList va.data.toList = if q = true then 19 else 12 by rw [kindA, if_neg (by rintro (h | h); exact h1 h; exact h2 h), hq])
                have HQ := hide hq
                clear h1 h2 hq
                unfold oidDC at t1 t2
                unfold oidE at t3 t4
                go_wp2_with fail
                refine (text_v 19 va (by omega) q HQ.out _).mono ?_
                rintro e w7 ⟨rfl, hb7⟩
                have HB7 := hide (HB6.out.trans (hb7.mono HB6.out.size))
                have HR7 := hide (HR6.out.below hb7)
                clear hb7
                cases q
                · obtain ⟨r0, r1, r2, f0, f1, f2⟩ := HR7.out.facts
                  go_wp2_with fail
                  obtain ⟨q0, q1, q2⟩ := HR7.out.store (.string id) (.int .i64 12) (.string va)
                  have hbz := below_store3 HB7.out (Nat.le_refl w.heap.size) (.string id) (.int .i64 12) (.string va)
                  obtain ⟨W3, hW3⟩ : ∃ W3, W3 = ((w7.setCell ⟨w.heap.size, 0, none⟩ (.string id)).setCell ⟨w.heap.size, 1, none⟩ (.int .i64 12)).setCell ⟨w.heap.size, 2, none⟩ (.string va) := ⟨_, rfl⟩
                  rw [← hW3] at q0 q1 q2 hbz ⊢
                  exact bodyPost_ret (v := .tuple #[.agg #[(.string id), (.int .i64 12), (.string va)], .bool true]) (by simp [results, Tryz.results74, go_sem, q0, q1, q2]) rfl ⟨by rw [HS.out, HK.out]; rfl, hbz⟩
                · obtain ⟨r0, r1, r2, f0, f1, f2⟩ := HR7.out.facts
                  go_wp2_with fail
                  obtain ⟨q0, q1, q2⟩ := HR7.out.store (.string id) (.int .i64 19) (.string va)
                  have hbz := below_store3 HB7.out (Nat.le_refl w.heap.size) (.string id) (.int .i64 19) (.string va)
                  obtain ⟨W3, hW3⟩ : ∃ W3, W3 = ((w7.setCell ⟨w.heap.size, 0, none⟩ (.string id)).setCell ⟨w.heap.size, 1, none⟩ (.int .i64 19)).setCell ⟨w.heap.size, 2, none⟩ (.string va) := ⟨_, rfl⟩
                  rw [← hW3] at q0 q1 q2 hbz ⊢
                  exact bodyPost_ret (v := .tuple #[.agg #[(.string id), (.int .i64 19), (.string va)], .bool true]) (by simp [results, Tryz.results74, go_sem, q0, q1, q2]) rfl ⟨by rw [HS.out, HK.out]; rfl, hbz⟩
end Go.Proofs.YtmgnihmjjijdoaaGreatDoor
namespace Go.Proofs.YtmgnihmjjijdoaaGreatDoor
open Go.RowKit
def shortA (a : Attr) : Bool := decide (a.1.length ≤ 200) && decide (a.2.2.length ≤ 200)
def shortR (r : List Attr) : Bool := decide (r.length ≤ 8) && r.all shortA
def shortN (n : Name) : Bool := decide (n.length ≤ 12) && n.all shortR
theorem shortN_small {n : Name} (h : shortN n = true) : SmallN n := fun r hr a ha => by
 simp only [shortN, Bool.and_eq_true, List.all_eq_true] at h
 have h1 := h.2 r hr
 simp only [shortR, Bool.and_eq_true, List.all_eq_true] at h1
 have h2 := h1.2 a ha
 simp only [shortA, Bool.and_eq_true, decide_eq_true_eq] at h2
 exact ⟨by omega, by omega⟩
set_option maxRecDepth 100000 in
set_option maxHeartbeats 4000000 in
theorem Short_any (n : Name) (A : Option Addr) (c : Nat) (w : World) (h : Sl RRdn 1 w (Lt w.heap.size) n [.slice A n.length c]) (q : Bool) (hq : shortN n = q) :
  Calls Tryz.prog 57 #[.agg #[.slice A n.length c]] w fun e w' => e = .returned (.bool q) ∧ Below w.heap.size w w' := by
 obtain ⟨-, hnc, hcm⟩ := h.len_
 unfold maxLen at hcm
 have K := hide h
 clear h
 by_cases hl : n.length ≤ 12
 ·have H0 := hide (show q = (n.drop 0).all shortR by rw [← hq, shortN, decide_eq_true hl]; rfl)
  have hle : ¬ 12 < n.length := by omega
  clear hq
  go_enter Tryz.func57, Tryz.ntmps57
  go_wp2_with fail
  obtain ⟨wa, hwa⟩ : ∃ wa, wa = w.alloc (.cells #[.slice A n.length c] 24) := ⟨_, rfl⟩
  have hba : Below w.heap.size w wa := by rw [hwa]; exact (Below.refl _ _).alloc (Nat.le_refl _) _
  rw [← hwa]
  have HBA := hide hba
  clear hwa hba
  go_loopw [14] (fun i wr => ∃ k : Nat, k ≤ n.length ∧ i = .int .i64 k ∧ Below w.heap.size w wr ∧ Hid (q = (n.drop k).all shortR)) (fun i _ => n.length - (intOf i).toNat)
  case atStart => exact ⟨0, by omega, rfl, HBA.out, H0⟩
  case round =>
   obtain ⟨k, hk, rfl, hb, H⟩ := hrel
   by_cases hlt : k < n.length
   ·obtain ⟨b1, o1, A1, c1, hA, hbS, d1, hsl1⟩ := K.out.rdnAt hlt
    subst hA
    have hbS' : b1 < w.heap.size := hbS
    have HX := hide (show q = (shortR n[k] && (n.drop (k + 1)).all shortR) by rw [H.out, List.drop_eq_getElem_cons hlt, List.all_cons])
    obtain ⟨r, hr⟩ : ∃ r, n[k] = r := ⟨_, rfl⟩
    rw [hr] at d1 hsl1 HX
    have e1 := (hb.cell (p := ⟨b1, o1 + k, none⟩) hbS').trans d1
    have HSL1 := hide hsl1
    have hcm1 := hsl1.len_.2
    obtain ⟨hcm1, hcm2⟩ := hcm1
    unfold maxLen at hcm2
    have HB := hide hb
    obtain ⟨wo, rfl⟩ : ∃ wo : World, wo = wr := ⟨_, rfl⟩
    clear hr d1 hsl1 hb
    by_cases hr8 : r.length ≤ 8
    ·have hle8 : ¬ 8 < r.length := by omega
     have HS := hide (show shortR r = (r.drop 0).all shortA by rw [shortR, decide_eq_true hr8]; rfl)
     go_wp2_with fail
     go_loopw [23] (fun i wi => ∃ j : Nat, j ≤ r.length ∧ i = .int .i64 j ∧ Below w.heap.size w wi ∧ Hid (shortR r = (r.drop j).all shortA)) (fun i _ => r.length - (intOf i).toNat)
     case atStart => exact ⟨0, by omega, rfl, HB.out, HS⟩
     case round =>
      obtain ⟨j, hj, rfl, hb, HJ⟩ := hrel
      by_cases hjl : j < r.length
      ·obtain ⟨b2, o2, hA2, hbS2, f0, f1, f2⟩ := attAt_v HSL1.out hjl
       subst hA2
       have hbS2' : b2 < w.heap.size := hbS2
       have HY := hide (show shortR r = (shortA r[j] && (r.drop (j + 1)).all shortA) by rw [HJ.out, List.drop_eq_getElem_cons hjl, List.all_cons])
       obtain ⟨ta, va, kk, hrj⟩ : ∃ (ta va : ByteArray) (kk : Int), r[j] = (ta.data.toList, kk, va.data.toList) := ⟨⟨r[j].1.toArray⟩, ⟨r[j].2.2.toArray⟩, r[j].2.1, rfl⟩
       rw [hrj] at f0 f1 f2 HY
       have g0 : wr.cell? ⟨b2, o2 + j * 3, none⟩ = some (.string ta) := (hb.cell (p := ⟨b2, o2 + j * 3, none⟩) hbS2').trans f0
       have g1 : wr.cell? ⟨b2, o2 + j * 3 + 1, none⟩ = some (.int .i64 kk) := (hb.cell (p := ⟨b2, o2 + j * 3 + 1, none⟩) hbS2').trans f1
       have g2 : wr.cell? ⟨b2, o2 + j * 3 + 2, none⟩ = some (.string va) := (hb.cell (p := ⟨b2, o2 + j * 3 + 2, none⟩) hbS2').trans f2
       have HZ := hide (show shortR r = (decide (ta.size ≤ 200) && decide (va.size ≤ 200) && (r.drop (j + 1)).all shortA) by
        rw [HY.out, shortA, size_string, size_string])
       have HBB := hide hb
       have hbz := hb.size
       clear f0 f1 f2 hrj hb
       by_cases h1 : ta.size ≤ 200
       ·have h1' : ¬ 200 < ta.size := by omega
        by_cases h2 : va.size ≤ 200
        ·have h2' : ¬ 200 < va.size := by omega
         have HN := hide (show shortR r = (r.drop (j + 1)).all shortA by rw [HZ.out, decide_eq_true h1, decide_eq_true h2]; rfl)
         go_wp2_with fail
         go_roundw
         case rel => exact ⟨j + 1, by omega, by go_num, HBB.out.alloc hbz _, HN⟩
         case measure => simp [intOf]; omega
        ·have h2' : 200 < va.size := by omega
         have HN := hide (show q = false by rw [HX.out, HZ.out, decide_eq_false h2]; simp)
         go_wp2_with fail
         go_ret
         exact ⟨ret_bool HN.out.symm, HBB.out.alloc hbz _⟩
       ·have h1' : 200 < ta.size := by omega
        have HN := hide (show q = false by rw [HX.out, HZ.out, decide_eq_false h1]; simp)
        go_wp2_with fail
        go_ret
        exact ⟨ret_bool HN.out.symm, HBB.out.alloc hbz _⟩
      ·have HN := hide (show q = (n.drop (k + 1)).all shortR by
        rw [HX.out, HJ.out, List.drop_of_length_le (show r.length ≤ j by omega)]; rfl)
       have HBB := hide hb
       clear hb
       go_wp2_with fail
       go_roundw
       case rel => exact ⟨k + 1, by omega, by go_num, HBB.out, HN⟩
       case measure => simp [intOf]; omega
    ·have hle8 : 8 < r.length := by omega
     have HN := hide (show q = false by rw [HX.out, shortR, decide_eq_false hr8]; rfl)
     go_wp2_with fail
     go_ret
     exact ⟨ret_bool HN.out.symm, HB.out⟩
   ·have HN := hide (show q = true by rw [H.out, List.drop_of_length_le (by omega)]; rfl)
    have HB := hide hb
    clear hb
    go_wp2_with fail
    go_ret
    exact ⟨ret_bool HN.out.symm, HB.out⟩
 ·have HN := hide (show q = false by rw [← hq, shortN, decide_eq_false hl]; rfl)
  have hle : 12 < n.length := by omega
  clear hq hl
  go_enter Tryz.func57, Tryz.ntmps57
  go_wp2_with fail
  go_ret
  exact ⟨ret_bool HN.out.symm, (Below.refl _ _).alloc (Nat.le_refl _) _⟩
end Go.Proofs.YtmgnihmjjijdoaaGreatDoor
