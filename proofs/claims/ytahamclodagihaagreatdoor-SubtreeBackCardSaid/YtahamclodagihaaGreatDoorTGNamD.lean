/- The functions of package dname and its reference: Within, Match. -/
import Derived.Test.YtahamclodagihaaGreatDoorTGLibD
namespace Go.Proofs.YtahamclodagihaaGreatDoor
open Go.RowKit
theorem same_v (a b : List Attr) (A B : Option Addr) (c d : Nat) (q : Bool) (hq : sameR a b = q) (w : World) (h : Sl RAttr 3 w (Lt w.heap.size) a [.slice A a.length c]) (h2 : Sl RAttr 3 w (Lt w.heap.size) b [.slice B b.length d]) (hs1 : SmallR a) (hs2 : SmallR b) :
  Calls Tryz.prog 161 #[.slice A a.length c, .slice B b.length d] w fun e w' => e = .returned (.bool q) ∧ Below w.heap.size w w' := hq ▸ same_any a b A B c d w h h2 hs1 hs2
theorem held4 {W W9 : World} {p1 p2 p3 p4 : Addr} {v1 v2 v3 v4 : Value} (hb : Below W.heap.size W W9) (h1 : W.cell? p1 = some v1) (h2 : W.cell? p2 = some v2) (h3 : W.cell? p3 = some v3) (h4 : W.cell? p4 = some v4) :
  W9.cell? p1 = some v1 ∧ W9.cell? p2 = some v2 ∧ W9.cell? p3 = some v3 ∧ W9.cell? p4 = some v4 :=
 ⟨cell_grows hb _ _ h1, cell_grows hb _ _ h2, cell_grows hb _ _ h3, cell_grows hb _ _ h4⟩
set_option maxRecDepth 100000 in
set_option maxHeartbeats 4000000 in
theorem Within_any (n m : Name) (A B : Option Addr) (c d : Nat) (w : World) (h : Sl RRdn 1 w (Lt w.heap.size) n [.slice A n.length c]) (h2 : Sl RRdn 1 w (Lt w.heap.size) m [.slice B m.length d]) (hs1 : SmallN n) (hs2 : SmallN m) :
  Calls Tryz.prog 115 #[.agg #[.slice A n.length c], .agg #[.slice B m.length d]] w fun e w' => e = .returned (.bool (withinN n m)) ∧ Below w.heap.size w w' := by
 obtain ⟨-, hnc, hcm⟩ := h.len_
 obtain ⟨-, hnc2, hcm2⟩ := h2.len_
 unfold maxLen at hcm hcm2
 obtain ⟨r, hr⟩ : ∃ r, withinN n m = r := ⟨_, rfl⟩
 rw [hr]
 have K := hide h
 have K2 := hide h2
 have HS1 := hide hs1
 have HS2 := hide hs2
 clear h h2 hs1 hs2
 by_cases hl : m.length ≤ n.length
 ·have H0 := hide (show r = ((n.zip m).drop 0).all fun p => sameR p.1 p.2 by rw [← hr, withinN, decide_eq_true hl]; rfl)
  have hdec : decide (n.length < m.length) = false := by simp; omega
  clear hr
  go_enter Tryz.func115, Tryz.ntmps115
  go_wp2_with fail
  obtain ⟨wa, hwa⟩ : ∃ wa, wa = (w.alloc (.cells #[.slice A n.length c] 24)).alloc (.cells #[.slice B m.length d] 24) := ⟨_, rfl⟩
  have ha0 : wa.cell? ⟨w.heap.size, 0, none⟩ = some (.slice A n.length c) := by
   rw [hwa, World.cell?_alloc_lt _ _ _ (by simp), World.cell?_alloc_new]; rfl
  have ha1 : wa.cell? ⟨w.heap.size + 1, 0, none⟩ = some (.slice B m.length d) := by
   rw [hwa, show w.heap.size + 1 = (w.alloc (.cells #[.slice A n.length c] 24)).heap.size by simp, World.cell?_alloc_new]; rfl
  have hba : Below w.heap.size w wa := by rw [hwa]; exact ((Below.refl _ _).alloc (Nat.le_refl _) _).alloc (by simp) _
  have hza : wa.heap.size = w.heap.size + 2 := by rw [hwa]; simp
  rw [← hwa]
  have HA0 := hide ha0
  have HA1 := hide ha1
  have HBA := hide hba
  have HZA := hide hza
  clear hwa ha0 ha1 hba hza
  go_loopw [16] (fun i wr => ∃ k : Nat, k ≤ m.length ∧ i = .int .i64 k ∧ Below wa.heap.size wa wr ∧ Hid (r = ((n.zip m).drop k).all fun p => sameR p.1 p.2)) (fun i _ => m.length - (intOf i).toNat)
  case atStart => exact ⟨0, by omega, rfl, Below.refl _ _, H0⟩
  case round =>
   obtain ⟨k, hk, rfl, hb, H⟩ := hrel
   have hbw := HBA.out.trans (hb.mono HBA.out.size)
   by_cases hlt : k < m.length
   ·obtain ⟨b1, o1, A1, c1, hA, hbS, d1, hsl1⟩ := K.out.rdnAt (i := k) (by omega)
    obtain ⟨b2, o2, A2, c2, hA2, hbS2, d2, hsl2⟩ := K2.out.rdnAt hlt
    subst hA hA2
    have hbS' : b1 < w.heap.size := hbS
    have hbS2' : b2 < w.heap.size := hbS2
    have hx1 := HS1.out (n[k]'(by omega)) (List.getElem_mem _)
    have hx2 := HS2.out m[k] (List.getElem_mem hlt)
    have HX := hide (show r = (sameR (n[k]'(by omega)) m[k] && ((n.zip m).drop (k + 1)).all fun p => sameR p.1 p.2) by
     rw [H.out, List.drop_eq_getElem_cons (show k < (n.zip m).length by rw [List.length_zip]; omega), List.getElem_zip]; rfl)
    obtain ⟨x, hx⟩ : ∃ x, n[k]'(by omega) = x := ⟨_, rfl⟩
    obtain ⟨y, hy⟩ : ∃ y, m[k] = y := ⟨_, rfl⟩
    rw [hx] at d1 hsl1 hx1 HX
    rw [hy] at d2 hsl2 hx2 HX
    obtain ⟨q, hq⟩ : ∃ q, sameR x y = q := ⟨_, rfl⟩
    rw [hq] at HX
    have e0 := cell_grows hb _ _ HA0.out
    have e1 := cell_grows hb _ _ HA1.out
    have e2 := (hbw.cell (p := ⟨b1, o1 + k, none⟩) hbS').trans d1
    have e3 := (hbw.cell (p := ⟨b2, o2 + k, none⟩) hbS2').trans d2
    have SC := hide (same_v x y _ _ _ _ q hq wr.drew ((Sl.ok RAttr.ok).below hsl1 hbw.drew) ((Sl.ok RAttr.ok).below hsl2 hbw.drew) hx1 hx2)
    have hk0 : (0 : Int) ≤ (k : Int) := by omega
    have hkn : (k : Int) < (n.length : Int) := by omega
    have hkm : (k : Int) < (m.length : Int) := by omega
    have HB := hide hb
    have HBW := hide hbw
    clear d1 d2 hsl1 hsl2 hx hy hq hx1 hx2 hb hbw
    go_wp2_with fail
    go_region_held3 (fun W => W.cell? ⟨w.heap.size, 0, none⟩ = some (.slice (some ⟨b1, o1, none⟩) n.length c) ∧ W.cell? ⟨w.heap.size + 1, 0, none⟩ = some (.slice (some ⟨b2, o2, none⟩) m.length d) ∧ W.cell? ⟨b1, o1 + k, none⟩ = some (.slice A1 x.length c1) ∧ W.cell? ⟨b2, o2 + k, none⟩ = some (.slice A2 y.length c2))
     (first | exact ⟨e0, e1, e2, e3⟩ | exact held4 hb9 e0 e1 e2 e3)
     (first | (go_at_call 161; refine SC.out.mono ?_; rintro e w9 ⟨rfl, hb9⟩))
    have HB9 := hide (HB.out.trans (((Below.refl wr.heap.size wr).drew.trans hb9).mono HB.out.size))
    have HBW9 := hide (HBW.out.trans (((Below.refl wr.heap.size wr).drew.trans hb9).mono HBW.out.size))
    clear hb9 e0 e1 e2 e3
    cases q
    ·have HY := hide (show r = false by rw [HX.out]; rfl)
     go_wp2_with fail
     go_ret
     exact ⟨ret_bool HY.out.symm, HBW9.out⟩
    ·have HY := hide (show r = ((n.zip m).drop (k + 1)).all fun p => sameR p.1 p.2 by rw [HX.out]; rfl)
     go_wp2_with fail
     go_roundw
     case rel => exact ⟨k + 1, by omega, by go_num, HB9.out, HY⟩
     case measure => simp [intOf]; omega
   ·have HX := hide (show r = true by rw [H.out, List.drop_of_length_le (by rw [List.length_zip]; omega)]; rfl)
    clear hb
    go_wp2_with fail
    go_ret
    exact ⟨ret_bool HX.out.symm, hbw⟩
 ·have HX := hide (show r = false by rw [← hr, withinN, decide_eq_false hl]; rfl)
  clear hr
  go_enter Tryz.func115, Tryz.ntmps115
  go_wp2_with fail
  go_ret
  exact ⟨ret_bool HX.out.symm, ((Below.refl _ _).alloc (Nat.le_refl _) _).alloc (by simp) _⟩
end Go.Proofs.YtahamclodagihaaGreatDoor
namespace Go.Proofs.YtahamclodagihaaGreatDoor
open Go.RowKit
theorem sl_new {α : Type} {f : α → List Value} {size : Nat} (hf : ∀ x, (f x).length = size) (w : World) (C : Array Value) (t : TypeId) (l : List α) (hC : C.toList = l.flatMap f) (hl : l.length ≤ maxLen) :
  Sl (Pu f) size (w.alloc (.cells C t)) (Lt (w.alloc (.cells C t)).heap.size) l [.slice (some ⟨w.heap.size, 0, none⟩) l.length l.length] := by
 refine ⟨_, _, rfl, Nat.le_refl _, hl, fun _ => ⟨w.heap.size, 0, rfl, by show _ < _; simp, fun i x hx => ?_⟩⟩
 obtain ⟨cs, h1, h2⟩ := news_pu hf w (Lt (w.alloc (.cells C t)).heap.size) C t l hC i x hx
 refine ⟨cs, h1, fun j u hu => ?_⟩
 have := h2 j u hu
 rw [Addr.add_lit] at this
 exact this
theorem cut_v (s : ByteArray) (hs : s.size ≤ 1000000) (c : UInt8) (w : World) (hmx : Mx w) (a b : ByteArray) (f : Bool) (ha : a.data.toList = (Lib.cut s.data.toList [c]).1) (hb : b.data.toList = (Lib.cut s.data.toList [c]).2.1) (hf : (Lib.cut s.data.toList [c]).2.2 = f) :
  Calls Tryz.prog 134 #[.string s, .string ⟨#[c]⟩] w fun e w' => e = .returned (.tuple #[.string a, .string b, .bool f]) ∧ ∃ n, w' = w.drewN n := by
 obtain ⟨m, hm⟩ := hmx
 refine (Tryz.strings_Cut s ⟨#[c]⟩ m w (by omega) hm).mono fun e w' ⟨he, hw⟩ => ⟨?_, hw⟩
 rw [he]
 show Ending.returned (.tuple #[.string ⟨(Lib.cut s.data.toList [c]).1.toArray⟩, .string ⟨(Lib.cut s.data.toList [c]).2.1.toArray⟩, .bool (Lib.cut s.data.toList [c]).2.2]) = _
 rw [← ha, ← hb, hf]
end Go.Proofs.YtahamclodagihaaGreatDoor
namespace Go.Proofs.YtahamclodagihaaGreatDoor
open Go.RowKit
def ResAtt (g : Nat) (W : World) : Prop := W.heap[g]? = some (.cells #[.string ⟨#[]⟩, .int .i64 0, .string ⟨#[]⟩] 27 (0, 0))
theorem ResAtt.facts {g : Nat} {W : World} (h : ResAtt g W) : W.cell? ⟨g, 0, none⟩ = some (.string ⟨#[]⟩) ∧ W.cell? ⟨g, 1, none⟩ = some (.int .i64 0) ∧ W.cell? ⟨g, 2, none⟩ = some (.string ⟨#[]⟩) ∧
  W.frozen? ⟨g, 0, none⟩ = false ∧ W.frozen? ⟨g, 1, none⟩ = false ∧ W.frozen? ⟨g, 2, none⟩ = false := by
 unfold ResAtt at h
 simp [World.cell?, World.frozen?, h]
theorem ResAtt.below {g : Nat} {W W' : World} (h : ResAtt g W) (hb : Below W.heap.size W W') : ResAtt g W' := by
 have hlt : g < W.heap.size := (Array.getElem?_eq_some_iff.1 h).1
 exact (hb.block g hlt).trans h
theorem ResAtt.store {g : Nat} {W : World} (h : ResAtt g W) (a b c : Value) :
  (((W.setCell ⟨g, 0, none⟩ a).setCell ⟨g, 1, none⟩ b).setCell ⟨g, 2, none⟩ c).cell? ⟨g, 0, none⟩ = some a ∧ (((W.setCell ⟨g, 0, none⟩ a).setCell ⟨g, 1, none⟩ b).setCell ⟨g, 2, none⟩ c).cell? ⟨g, 1, none⟩ = some b ∧
  (((W.setCell ⟨g, 0, none⟩ a).setCell ⟨g, 1, none⟩ b).setCell ⟨g, 2, none⟩ c).cell? ⟨g, 2, none⟩ = some c := by
 unfold ResAtt at h
 simp [World.cell?, World.setCell, Array.getElem?_modify, h]
end Go.Proofs.YtahamclodagihaaGreatDoor
namespace Go.Proofs.YtahamclodagihaaGreatDoor
open Go.RowKit
end Go.Proofs.YtahamclodagihaaGreatDoor
