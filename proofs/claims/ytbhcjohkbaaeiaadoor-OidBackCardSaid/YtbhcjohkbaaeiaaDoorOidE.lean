/- The functions of package oid: Less, Under. -/
import Derived.Test.YtbhcjohkbaaeiaaDoorOidD
namespace Go.Proofs.YtbhcjohkbaaeiaaDoor
open Go.RowKit

def lessL : List Nat → List Nat → Bool
  | [], [] => false
  | [], _ :: _ => true
  | _ :: _, [] => false
  | a :: x, b :: y => if a = b then lessL x y else decide (a < b)
def lessO : Option (List Nat) → Option (List Nat) → Bool
  | some x, some y => lessL x y
  | _, _ => false
def lessP (a b : List UInt8) : Bool := lessO (arcsP a) (arcsP b)
theorem lessL_end : ∀ (x y : List Nat), (x = [] ∨ y = []) → lessL x y = decide (x.length < y.length)
  | [], [], _ => rfl
  | [], _ :: _, _ => by simp [lessL]
  | _ :: _, [], _ => by simp [lessL]
  | _ :: _, _ :: _, h => by rcases h with h | h <;> cases h

/-- the two slices of arcs, cell by cell -/
def NatsAt (w : World) (g : Nat) (l : List Nat) : Prop := ∀ i (h : i < l.length), w.cell? ⟨g, i, none⟩ = some (.int .i64 (l[i] : Int))
theorem Sl.nats {w : World} {S : Nat → Prop} {g : Nat} {n c : Nat} {l : List Nat} (h : Sl RNat 1 w S l [.slice (some ⟨g, 0, none⟩) n c]) : NatsAt w g l := fun i hi => by
  obtain ⟨b, off, hA, hb', hc⟩ := h.natAt hi
  cases hA
  simpa using hc
theorem Sl.nats_lt {w : World} {S : Nat → Prop} {g : Nat} {n c : Nat} {l : List Nat} (h : Sl RNat 1 w S l [.slice (some ⟨g, 0, none⟩) n c]) (h0 : 0 < l.length) : S g := by
  obtain ⟨b, off, hA, hb', hc⟩ := h.natAt h0
  cases hA
  exact hb'
theorem NatsAt.below {w w' : World} {g : Nat} {l : List Nat} (h : NatsAt w g l) {B : Nat} (hg : g < B) (hb : Below B w w') : NatsAt w' g l := fun i hi => (hb.cell hg).trans (h i hi)



set_option maxHeartbeats 4000000 in
theorem Less_any (a b : ByteArray) (ha : a.size ≤ 1000000) (hb : b.size ≤ 1000000) (w : World) (hmx : Mx w) :
    Calls Tryd.prog 17 #[.string a, .string b] w fun e w' => e = .returned (.bool (lessP a.data.toList b.data.toList)) ∧ Below w.heap.size w w' := by
  have HMX := hide hmx
  clear hmx
  obtain ⟨r, hr⟩ : ∃ r, arcsP a.data.toList = r := ⟨_, rfl⟩
  obtain ⟨q, hq⟩ : ∃ q, arcsP b.data.toList = q := ⟨_, rfl⟩
  rw [lessP, hr, hq]
  have HR := hide hr
  have HQ := hide hq
  clear hr hq
  go_enter Tryd.func17, Tryd.ntmps17
  go_wp2_with fail
  refine (arcs_any a ha _ HMX.out).mono ?_
  rw [HR.out]
  rintro e w1 ⟨hb1, h1⟩
  cases r with
  | none =>
    subst h1
    have hq := fun W : World => Lib.run_eql_slice_nil (P := Tryd.prog) W 39 3 none 0 0 0 0 Tryd.underlying39
    have HMX1 := hide (HMX.out.below hb1)
    go_wp2_with fail
    refine (arcs_any b hb _ HMX1.out).mono ?_
    rw [HQ.out]
    rintro e w2 ⟨hb2, h2⟩
    have HB := hide (hb1.trans (hb2.mono hb1.size))
    cases q with
    | none =>
      subst h2
      clear hb1 hb2
      go_wp2_with fail
      go_ret
      exact ⟨rfl, HB.out⟩
    | some y =>
      obtain ⟨g2, c2, rfl, _, _⟩ := h2
      have hq2 := fun W : World => Lib.run_eql_slice_nil (P := Tryd.prog) W 39 3 (some ⟨g2, 0, none⟩) y.length c2 0 0 Tryd.underlying39
      clear hb1 hb2
      go_wp2_with fail
      go_ret
      exact ⟨rfl, HB.out⟩
  | some x =>
    obtain ⟨g1, c1, rfl, hgw1, hsl1⟩ := h1
    have hq := fun W : World => Lib.run_eql_slice_nil (P := Tryd.prog) W 39 3 (some ⟨g1, 0, none⟩) x.length c1 0 0 Tryd.underlying39
    have HMX1 := hide (HMX.out.below hb1)
    go_wp2_with fail
    refine (arcs_any b hb _ HMX1.out).mono ?_
    rw [HQ.out]
    rintro e w2 ⟨hb2, h2⟩
    have HB := hide (hb1.trans (hb2.mono hb1.size))
    cases q with
    | none =>
      subst h2
      clear hb1 hb2
      have hq2 := fun W : World => Lib.run_eql_slice_nil (P := Tryd.prog) W 39 3 none 0 0 0 0 Tryd.underlying39
      go_wp2_with fail
      go_ret
      exact ⟨rfl, HB.out⟩
    | some y =>
      obtain ⟨g2, c2, rfl, hgw2, hsl2⟩ := h2
      have hq2 := fun W : World => Lib.run_eql_slice_nil (P := Tryd.prog) W 39 3 (some ⟨g2, 0, none⟩) y.length c2 0 0 Tryd.underlying39
      obtain ⟨hx2, hx12, -, -⟩ := arcsP_some HR.out
      obtain ⟨hy2, hy12, -, -⟩ := arcsP_some HQ.out
      have hg1' : g1 < w1.heap.size := hsl1.nats_lt (by omega)
      have hg2 : g2 < w2.heap.size := hsl2.nats_lt (by omega)
      have hg1 : g1 < w2.heap.size := by have := hb2.size; omega
      have HX := hide (hsl1.nats.below hg1' hb2)
      have HY := hide hsl2.nats
      obtain ⟨-, hlc1, -⟩ := hsl1.len_
      obtain ⟨-, hlc2, -⟩ := hsl2.len_
      clear hsl1 hsl2 hb1 hb2 hgw1 hgw2 hg1'
      go_wp2_with fail
      go_loopw [7] (fun i wr => ∃ (k : Nat), k ≤ x.length ∧ k ≤ y.length ∧ i = .int .i64 k ∧ Below w2.heap.size w2 wr ∧ Hid (lessL x y = lessL (x.drop k) (y.drop k))) (fun i _ => x.length - (intOf i).toNat)
      case atStart => exact ⟨0, by omega, by omega, rfl, Below.refl _ _, hide rfl⟩
      case round =>
        obtain ⟨k, hk1, hk2, rfl, hb, H⟩ := hrel
        by_cases hx : k < x.length
        · by_cases hy : k < y.length
          · have hcx : wr.cell? ⟨g1, k, none⟩ = some (.int .i64 (x[k] : Int)) := (hb.cell hg1).trans (HX.out k hx)
            have hcy : wr.cell? ⟨g2, k, none⟩ = some (.int .i64 (y[k] : Int)) := (hb.cell hg2).trans (HY.out k hy)
            have hdx := List.drop_eq_getElem_cons hx
            have hdy := List.drop_eq_getElem_cons hy
            obtain ⟨a, ha'⟩ : ∃ a, x[k] = a := ⟨_, rfl⟩
            obtain ⟨b, hb'⟩ : ∃ b, y[k] = b := ⟨_, rfl⟩
            rw [ha'] at hcx hdx
            rw [hb'] at hcy hdy
            have HE := hide (show lessL x y = if a = b then lessL (x.drop (k + 1)) (y.drop (k + 1)) else decide (a < b) by rw [H.out, hdx, hdy, lessL])
            have hk0 : (0 : Int) ≤ (k : Int) := by omega
            have hkx : (k : Int) < (x.length : Int) := by omega
            have hky : (k : Int) < (y.length : Int) := by omega
            have HBN := hide (fun n => below_drewN hb n)
            clear hdx hdy ha' hb' hb
            by_cases hab : a = b
            · have ht : ((a : Int) != (b : Int)) = false := by simp [hab]
              have HF := hide (HE.out.trans (if_pos hab))
              clear hab
              go_wp2_with fail
              go_quiet (fail)
              go_wp2_with fail
              go_roundw
              case rel => exact ⟨k + 1, by omega, by omega, by go_num, HBN.out _, HF⟩
              case measure => simp [intOf]; omega
            · have ht : ((a : Int) != (b : Int)) = true := by simp; omega
              have HF := hide (HE.out.trans (if_neg hab))
              have HD := hide (show (decide ((a : Int) < (b : Int))) = decide (a < b) by rw [decide_eq_decide]; omega)
              clear hab
              go_wp2_with fail
              go_quiet (fail)
              go_wp2_with fail
              go_quiet (fail)
              go_wp2_with fail
              go_ret
              exact ⟨ret_bool (show _ = lessL x y from HF.out.symm), HB.out.trans ((below_drewN (HBN.out _) _).mono (by have := HB.out.size; omega))⟩
          · have HF := hide (show lessL x y = decide (x.length < y.length) by
              rw [H.out, lessL_end _ _ (.inr (List.drop_of_length_le (by omega))), decide_eq_decide, List.length_drop, List.length_drop]; omega)
            have HD := hide (show (decide ((x.length : Int) < (y.length : Int))) = decide (x.length < y.length) by rw [decide_eq_decide]; omega)
            have HBN := hide hb
            clear hb
            go_wp2_with fail
            go_ret
            exact ⟨ret_bool (show _ = lessL x y by rw [HF.out, ← HD.out]), HB.out.trans (HBN.out.mono (by have := HB.out.size; omega))⟩
        · have HF := hide (show lessL x y = decide (x.length < y.length) by
            rw [H.out, lessL_end _ _ (.inl (List.drop_of_length_le (by omega))), decide_eq_decide, List.length_drop, List.length_drop]; omega)
          have HD := hide (show (decide ((x.length : Int) < (y.length : Int))) = decide (x.length < y.length) by rw [decide_eq_decide]; omega)
          have HBN := hide hb
          clear hb
          go_wp2_with fail
          go_ret
          exact ⟨ret_bool (show _ = lessL x y by rw [HF.out, ← HD.out]), HB.out.trans (HBN.out.mono (by have := HB.out.size; omega))⟩

def underP (s b : List UInt8) : Bool := validB s && validB b && (decide (s = b) || Lib.hasPrefix s (b ++ [46]))
set_option maxHeartbeats 2000000 in
theorem Under_any (s b : ByteArray) (hs : s.size ≤ 1000000) (hb : b.size ≤ 1000000) (w : World) (hmx : Mx w) :
    Calls Tryd.prog 15 #[.string s, .string b] w fun e w' => e = .returned (.bool (underP s.data.toList b.data.toList)) ∧ Below w.heap.size w w' := by
  have HMX := hide hmx
  clear hmx
  obtain ⟨p, hp⟩ : ∃ p, validB s.data.toList = p := ⟨_, rfl⟩
  obtain ⟨q, hq⟩ : ∃ q, validB b.data.toList = q := ⟨_, rfl⟩
  obtain ⟨f, hf⟩ : ∃ f, decide (s.data.toList = b.data.toList) = f := ⟨_, rfl⟩
  obtain ⟨z, hz⟩ : ∃ z, Lib.hasPrefix s.data.toList (b.data.toList ++ [46]) = z := ⟨_, rfl⟩
  rw [underP, hp, hq, hf, hz]
  have heq : (s.toList = b.toList) ↔ f = true := by rw [ByteArray.toList_eq, ByteArray.toList_eq, ← hf, decide_eq_true_eq]
  have HEQ := hide heq
  have hbs : ¬ 9223372036854775807 < b.size + 1 := by omega
  have HP := hide hp
  have HQ := hide hq
  have hz' : Lib.hasPrefix s.data.toList (b ++ ⟨#[46]⟩).data.toList = z := by rw [ba_append]; exact hz
  have HZ := hide hz'
  clear hp hq hz hf hz' heq
  cases p
  · go_enter Tryd.func15, Tryd.ntmps15
    go_wp2_with fail
    refine (Valid_any s hs _ HMX.out).mono ?_
    rw [HP.out]
    rintro e w1 ⟨rfl, hb1⟩
    have HB := hide hb1
    clear hb1
    go_wp2_with fail
    go_ret
    exact ⟨rfl, HB.out⟩
  · go_enter Tryd.func15, Tryd.ntmps15
    go_wp2_with fail
    refine (Valid_any s hs _ HMX.out).mono ?_
    rw [HP.out]
    rintro e w1 ⟨rfl, hb1⟩
    have HMX1 := hide (HMX.out.below hb1)
    go_wp2_with fail
    refine (Valid_any b hb _ HMX1.out).mono ?_
    rw [HQ.out]
    rintro e w2 ⟨rfl, hb2⟩
    have HB := hide (hb1.trans (hb2.mono hb1.size))
    clear hb1 hb2
    cases q
    · go_wp2_with fail
      go_ret
      exact ⟨rfl, HB.out⟩
    · cases f
      · have hne : ¬ s.toList = b.toList := fun h => by cases HEQ.out.1 h
        have hne2 : (s.toList == b.toList) = false := by simpa using hne
        go_wp2_with fail
        refine (Tryd.strings_HasPrefix _ _ _).mono ?_
        rintro e w3 ⟨rfl, rfl⟩
        rw [HZ.out]
        cases z
        all_goals
          go_wp2_with fail
          go_ret
          exact ⟨rfl, HB.out⟩
      · have heq : s.toList = b.toList := HEQ.out.2 rfl
        have heq2 : (s.toList == b.toList) = true := by simpa using heq
        go_wp2_with fail
        go_ret
        exact ⟨rfl, HB.out⟩
end Go.Proofs.YtbhcjohkbaaeiaaDoor
