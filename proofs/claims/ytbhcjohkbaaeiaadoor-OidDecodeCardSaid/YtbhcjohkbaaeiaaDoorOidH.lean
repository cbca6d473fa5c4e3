/- The reference of package oid: ValidOID, LessOID, UnderOID. -/
import Derived.Test.YtbhcjohkbaaeiaaDoorOidG
namespace Go.Proofs.YtbhcjohkbaaeiaaDoor
open Go.RowKit

theorem rarcs_p (s : ByteArray) (hs : s.size ≤ 1000000) (w : World) :
    Calls Tryd.prog 23 #[.string s] w (RefPost w (arcsP s.data.toList)) := by
  rw [← refP_arcsP]
  exact rarcs_any s hs w

set_option maxHeartbeats 1000000 in
theorem rValid_any (s : ByteArray) (hs : s.size ≤ 1000000) (w : World) :
    Calls Tryd.prog 13 #[.string s] w fun e w' => e = .returned (.bool (validB s.data.toList)) ∧ Below w.heap.size w w' := by
  obtain ⟨r, hr⟩ : ∃ r, arcsP s.data.toList = r := ⟨_, rfl⟩
  rw [validB, hr]
  have HR := hide hr
  clear hr
  go_enter Tryd.func13, Tryd.ntmps13
  go_wp2_with fail
  refine (rarcs_p s hs _).mono ?_
  rw [HR.out]
  rintro e w1 ⟨hb, h⟩
  cases r with
  | none =>
    subst h
    go_wp2_with fail
    go_ret
    exact ⟨rfl, hb⟩
  | some l =>
    obtain ⟨g, c, rfl, _, _⟩ := h
    go_wp2_with fail
    go_ret
    exact ⟨rfl, hb⟩



set_option maxRecDepth 100000 in
set_option maxHeartbeats 4000000 in
theorem rLess_any (a b : ByteArray) (ha : a.size ≤ 1000000) (hb : b.size ≤ 1000000) (w : World) :
    Calls Tryd.prog 18 #[.string a, .string b] w fun e w' => e = .returned (.bool (lessP a.data.toList b.data.toList)) ∧ Below w.heap.size w w' := by
  obtain ⟨r, hr⟩ : ∃ r, arcsP a.data.toList = r := ⟨_, rfl⟩
  obtain ⟨q, hq⟩ : ∃ q, arcsP b.data.toList = q := ⟨_, rfl⟩
  rw [lessP, hr, hq]
  have HR := hide hr
  have HQ := hide hq
  clear hr hq
  go_enter Tryd.func18, Tryd.ntmps18
  go_wp2_with fail
  refine (rarcs_p a ha _).mono ?_
  rw [HR.out]
  rintro e w1 ⟨hb1, h1⟩
  cases r with
  | none =>
    subst h1
    go_wp2_with fail
    refine (rarcs_p b hb _).mono ?_
    rw [HQ.out]
    rintro e w2 ⟨hb2, h2⟩
    have HB := hide (hb1.trans (hb2.mono hb1.size))
    cases q with
    | none =>
      subst h2
      clear hb1 hb2
      go_wp2_with fail
      go_ret
      exact ⟨rfl, HB.out⟩
    | some y =>
      obtain ⟨g2, c2, rfl, _, _⟩ := h2
      clear hb1 hb2
      go_wp2_with fail
      go_ret
      exact ⟨rfl, HB.out⟩
  | some x =>
    obtain ⟨g1, c1, rfl, hgw1, hsl1⟩ := h1
    go_wp2_with fail
    refine (rarcs_p b hb _).mono ?_
    rw [HQ.out]
    rintro e w2 ⟨hb2, h2⟩
    have HB := hide (hb1.trans (hb2.mono hb1.size))
    cases q with
    | none =>
      subst h2
      clear hb1 hb2
      go_wp2_with fail
      go_ret
      exact ⟨rfl, HB.out⟩
    | some y =>
      obtain ⟨g2, c2, rfl, hgw2, hsl2⟩ := h2
      obtain ⟨hx2, hx12, -, -⟩ := arcsP_some HR.out
      obtain ⟨hy2, hy12, -, -⟩ := arcsP_some HQ.out
      have hg1' : g1 < w1.heap.size := hsl1.nats_lt (by omega)
      have hg2 : g2 < w2.heap.size := hsl2.nats_lt (by omega)
      have hg1 : g1 < w2.heap.size := by have := hb2.size; omega
      have HX := hide (hsl1.nats.below hg1' hb2)
      have HY := hide hsl2.nats
      obtain ⟨-, hlc1, -⟩ := hsl1.len_
      obtain ⟨-, hlc2, -⟩ := hsl2.len_
      clear hsl1 hsl2 hb1 hb2 hgw1 hgw2 hg1'
      go_wp2_with fail
      go_loopw [9] (fun i wr => ∃ (k : Nat), k ≤ x.length ∧ k ≤ y.length ∧ i = .int .i64 k ∧ Below w2.heap.size w2 wr ∧ Hid (lessL x y = lessL (x.drop k) (y.drop k))) (fun i _ => x.length - (intOf i).toNat)
      case atStart => exact ⟨0, by omega, by omega, rfl, Below.refl _ _, hide rfl⟩
      case round =>
        obtain ⟨k, hk1, hk2, rfl, hb, H⟩ := hrel
        by_cases hx : k < x.length
        · by_cases hy : k < y.length
          · have hcx : wr.cell? ⟨g1, k, none⟩ = some (.int .i64 (x[k] : Int)) := (hb.cell hg1).trans (HX.out k hx)
            have hcy : wr.cell? ⟨g2, k, none⟩ = some (.int .i64 (y[k] : Int)) := (hb.cell hg2).trans (HY.out k hy)
            have hdx := List.drop_eq_getElem_cons hx
            have hdy := List.drop_eq_getElem_cons hy
            obtain ⟨a, ha'⟩ : ∃ a, x[k] = a := ⟨_, rfl⟩
            obtain ⟨b, hb'⟩ : ∃ b, y[k] = b := ⟨_, rfl⟩
            rw [ha'] at hcx hdx
            rw [hb'] at hcy hdy
            have HE := hide (show lessL x y = if a = b then lessL (x.drop (k + 1)) (y.drop (k + 1)) else decide (a < b) by rw [H.out, hdx, hdy, lessL])
            have hk0 : (0 : Int) ≤ (k : Int) := by omega
            have hkx : (k : Int) < (x.length : Int) := by omega
            have hky : (k : Int) < (y.length : Int) := by omega
            have HBN := hide (fun n => below_drewN hb n)
            clear hdx hdy ha' hb' hb
            by_cases hab : a = b
            · have ht : ((a : Int) != (b : Int)) = false := by simp [hab]
              have HF := hide (HE.out.trans (if_pos hab))
              clear hab
              go_wp2_with fail
              go_quiet (fail)
              go_wp2_with fail
              go_roundw
              case rel => exact ⟨k + 1, by omega, by omega, by go_num, HBN.out _, HF⟩
              case measure => simp [intOf]; omega
            · have ht : ((a : Int) != (b : Int)) = true := by simp; omega
              have HF := hide (HE.out.trans (if_neg hab))
              have HD := hide (show (decide ((a : Int) < (b : Int))) = decide (a < b) by rw [decide_eq_decide]; omega)
              clear hab
              go_wp2_with fail
              go_quiet (fail)
              go_wp2_with fail
              go_quiet (fail)
              go_wp2_with fail
              go_ret
              exact ⟨ret_bool (show _ = lessL x y from HF.out.symm), HB.out.trans ((below_drewN (HBN.out _) _).mono (by have := HB.out.size; omega))⟩
          · have HF := hide (show lessL x y = decide (x.length < y.length) by
              rw [H.out, lessL_end _ _ (.inr (List.drop_of_length_le (by omega))), decide_eq_decide, List.length_drop, List.length_drop]; omega)
            have HD := hide (show (decide ((x.length : Int) < (y.length : Int))) = decide (x.length < y.length) by rw [decide_eq_decide]; omega)
            have HBN := hide hb
            clear hb
            go_wp2_with fail
            go_ret
            exact ⟨ret_bool (show _ = lessL x y by rw [HF.out, ← HD.out]), HB.out.trans (HBN.out.mono (by have := HB.out.size; omega))⟩
        · have HF := hide (show lessL x y = decide (x.length < y.length) by
            rw [H.out, lessL_end _ _ (.inl (List.drop_of_length_le (by omega))), decide_eq_decide, List.length_drop, List.length_drop]; omega)
          have HD := hide (show (decide ((x.length : Int) < (y.length : Int))) = decide (x.length < y.length) by rw [decide_eq_decide]; omega)
          have HBN := hide hb
          clear hb
          go_wp2_with fail
          go_ret
          exact ⟨ret_bool (show _ = lessL x y by rw [HF.out, ← HD.out]), HB.out.trans (HBN.out.mono (by have := HB.out.size; omega))⟩

def prefL : List Nat → List Nat → Bool
  | [], _ => true
  | _ :: _, [] => false
  | b :: y, a :: x => if a = b then prefL y x else false
def underO : Option (List Nat) → Option (List Nat) → Bool
  | some x, some y => if x.length < y.length then false else prefL y x
  | _, _ => false
def rUnderP (a b : List UInt8) : Bool := underO (arcsP a) (arcsP b)

set_option maxRecDepth 100000 in
set_option maxHeartbeats 4000000 in
theorem rUnder_any (a b : ByteArray) (ha : a.size ≤ 1000000) (hb : b.size ≤ 1000000) (w : World) :
    Calls Tryd.prog 16 #[.string a, .string b] w fun e w' => e = .returned (.bool (rUnderP a.data.toList b.data.toList)) ∧ Below w.heap.size w w' := by
  obtain ⟨r, hr⟩ : ∃ r, arcsP a.data.toList = r := ⟨_, rfl⟩
  obtain ⟨q, hq⟩ : ∃ q, arcsP b.data.toList = q := ⟨_, rfl⟩
  rw [rUnderP, hr, hq]
  have HR := hide hr
  have HQ := hide hq
  clear hr hq
  go_enter Tryd.func16, Tryd.ntmps16
  go_wp2_with fail
  refine (rarcs_p a ha _).mono ?_
  rw [HR.out]
  rintro e w1 ⟨hb1, h1⟩
  cases r with
  | none =>
    subst h1
    go_wp2_with fail
    refine (rarcs_p b hb _).mono ?_
    rw [HQ.out]
    rintro e w2 ⟨hb2, h2⟩
    have HB := hide (hb1.trans (hb2.mono hb1.size))
    cases q with
    | none =>
      subst h2
      clear hb1 hb2
      go_wp2_with fail
      go_ret
      exact ⟨rfl, HB.out⟩
    | some y =>
      obtain ⟨g2, c2, rfl, _, _⟩ := h2
      clear hb1 hb2
      go_wp2_with fail
      go_ret
      exact ⟨rfl, HB.out⟩
  | some x =>
    obtain ⟨g1, c1, rfl, hgw1, hsl1⟩ := h1
    go_wp2_with fail
    refine (rarcs_p b hb _).mono ?_
    rw [HQ.out]
    rintro e w2 ⟨hb2, h2⟩
    have HB := hide (hb1.trans (hb2.mono hb1.size))
    cases q with
    | none =>
      subst h2
      clear hb1 hb2
      go_wp2_with fail
      go_ret
      exact ⟨rfl, HB.out⟩
    | some y =>
      obtain ⟨g2, c2, rfl, hgw2, hsl2⟩ := h2
      obtain ⟨hx2, hx12, -, -⟩ := arcsP_some HR.out
      obtain ⟨hy2, hy12, -, -⟩ := arcsP_some HQ.out
      have hg1' : g1 < w1.heap.size := hsl1.nats_lt (by omega)
      have hg2 : g2 < w2.heap.size := hsl2.nats_lt (by omega)
      have hg1 : g1 < w2.heap.size := by have := hb2.size; omega
      have HX := hide (hsl1.nats.below hg1' hb2)
      have HY := hide hsl2.nats
      obtain ⟨-, hlc1, -⟩ := hsl1.len_
      obtain ⟨-, hlc2, -⟩ := hsl2.len_
      clear hsl1 hsl2 hb1 hb2 hgw1 hgw2 hg1'
      skip
      by_cases hxy : x.length < y.length
      · have HF := hide (show underO (some x) (some y) = false by rw [underO, if_pos hxy])
        go_wp2_with fail
        go_ret
        exact ⟨ret_bool HF.out.symm, HB.out⟩
      · have HF := hide (show underO (some x) (some y) = prefL y x by rw [underO, if_neg hxy])
        go_wp2_with fail
        go_loopw [35] (fun i wr => ∃ (k : Nat), k ≤ y.length ∧ i = .int .i64 k ∧ Below w2.heap.size w2 wr ∧ Hid (prefL y x = prefL (y.drop k) (x.drop k))) (fun i _ => y.length - (intOf i).toNat)
        case atStart => exact ⟨0, by omega, rfl, Below.refl _ _, hide rfl⟩
        case round =>
          obtain ⟨k, hk, rfl, hb', H⟩ := hrel
          by_cases hy : k < y.length
          · have hx : k < x.length := by omega
            have hcx : wr.cell? ⟨g1, k, none⟩ = some (.int .i64 (x[k] : Int)) := (hb'.cell hg1).trans (HX.out k hx)
            have hcy : wr.cell? ⟨g2, k, none⟩ = some (.int .i64 (y[k] : Int)) := (hb'.cell hg2).trans (HY.out k hy)
            have hdx := List.drop_eq_getElem_cons hx
            have hdy := List.drop_eq_getElem_cons hy
            obtain ⟨p, hp⟩ : ∃ p, x[k] = p := ⟨_, rfl⟩
            obtain ⟨q, hq⟩ : ∃ q, y[k] = q := ⟨_, rfl⟩
            rw [hp] at hcx hdx
            rw [hq] at hcy hdy
            have HE := hide (show prefL y x = if p = q then prefL (y.drop (k + 1)) (x.drop (k + 1)) else false by rw [H.out, hdx, hdy, prefL])
            have hk0 : (0 : Int) ≤ (k : Int) := by omega
            have hkx : (k : Int) < (x.length : Int) := by omega
            have hky : (k : Int) < (y.length : Int) := by omega
            have HBN := hide (fun n => below_drewN hb' n)
            clear hdx hdy hp hq hb'
            by_cases hab : p = q
            · have ht : ((p : Int) != (q : Int)) = false := by simp [hab]
              have HG := hide (HE.out.trans (if_pos hab))
              clear hab
              go_wp2_with fail
              go_quiet (fail)
              go_wp2_with fail
              go_roundw
              case rel => exact ⟨k + 1, by omega, by go_num, HBN.out _, HG⟩
              case measure => simp [intOf]; omega
            · have ht : ((p : Int) != (q : Int)) = true := by simp; omega
              have HG := hide (HE.out.trans (if_neg hab))
              clear hab
              go_wp2_with fail
              go_quiet (fail)
              go_wp2_with fail
              go_ret
              exact ⟨ret_bool (by rw [HF.out, HG.out]), HB.out.trans ((HBN.out _).mono (by have := HB.out.size; omega))⟩
          · have HG := hide (show prefL y x = true by rw [H.out, List.drop_of_length_le (by omega)]; rfl)
            have HBN := hide hb'
            clear hb'
            go_wp2_with fail
            go_ret
            exact ⟨ret_bool (by rw [HF.out, HG.out]), HB.out.trans (HBN.out.mono (by have := HB.out.size; omega))⟩
end Go.Proofs.YtbhcjohkbaaeiaaDoor
