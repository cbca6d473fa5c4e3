/- The examples of the chapter of package oid: awake; the law OidValid, its walk. -/
import Derived.Test.YtbhcjohkbaaeiaaDoorOidK
import Derived.Test.YtbhcjohkbaaeiaaDoorOidL
import Derived.Test.YtbhcjohkbaaeiaaDoorOidM
namespace Go.Proofs.YtbhcjohkbaaeiaaDoor
open Go.RowKit

theorem putL_small {n : Nat} (h : n < 128) : putL n = [UInt8.ofNat n] := by
  rw [putL, show n / 128 = 0 by omega, hiL_zero, show n % 128 = n by omega]; rfl
theorem awake_enc : encP [50, 46, 53, 46, 50, 57, 46, 49, 57] = some [85, 29, 19] := by
  have h : arcsP [50, 46, 53, 46, 50, 57, 46, 49, 57] = some [2, 5, 29, 19] := by decide
  rw [encP, h, Option.map_some, encL]
  simp only [List.getD_cons_zero, List.getD_cons_succ, List.drop_succ_cons, List.drop_zero, List.flatMap_cons, List.flatMap_nil]
  rw [putL_small (by omega), putL_small (by omega), putL_small (by omega)]
  rfl
theorem awake_no : validB [49, 46, 52, 48] = false := by decide
theorem awake_yes : validB [50, 46, 52, 48] = true := by decide
theorem encR_shape (o : Option (List UInt8)) : ∃ (B : ByteArray) (n : Int), encR o = .tuple #[.string B, .int .i64 n] := ⟨_, _, rfl⟩

set_option maxHeartbeats 1000000 in
theorem oawake_any (w : World) (hmx : Mx w) : Calls Tryd.prog 8 #[] w fun e w' => e = .returned (.bool true) ∧ Below w.heap.size w w' := by
  have HMX := hide hmx
  clear hmx
  go_enter Tryd.func8, Tryd.ntmps8
  go_wp2_with fail
  refine (Encode_any _ (by decide) _ HMX.out).mono ?_
  rintro e w1 ⟨rfl, hb1⟩
  simp only [awake_enc]
  have HMX1 := hide (HMX.out.below hb1)
  unfold encR
  go_wp2_with fail
  refine (Valid_any _ (by decide) _ HMX1.out).mono ?_
  rintro e w2 ⟨rfl, hb2⟩
  simp only [awake_no]
  have HMX2 := hide (HMX1.out.below hb2)
  go_wp2_with fail
  refine (Valid_any _ (by decide) _ HMX2.out).mono ?_
  rintro e w3 ⟨rfl, hb3⟩
  simp only [awake_yes]
  go_wp2_with fail
  go_ret
  have h2 := hb1.trans (hb2.mono hb1.size)
  exact ⟨rfl, h2.trans (hb3.mono h2.size)⟩

set_option maxRecDepth 100000 in
set_option maxHeartbeats 4000000 in
theorem OidValid_any (s : ByteArray) (hsm : s.size ≤ maxLen) (l : List UInt8) (A : Option Addr) (n c : Nat) (w : World) (hmx : Mx w) (h : Sl RByte 1 w (Lt w.heap.size) l [.slice A n c]) :
    Calls Tryd.prog 3 #[.string s, .slice A n c] w fun e w' => e = .returned (.bool true) ∧ Below w.heap.size w w' := by
  have K := hide h
  have HMX := hide hmx
  clear h hmx
  unfold maxLen at hsm
  by_cases hs : s.size ≤ 200
  · go_enter Tryd.func3, Tryd.ntmps3
    go_wp2_with fail
    refine (opc_any l A n c _ K.out).mono ?_
    rintro e w1 ⟨rfl, hb1⟩
    have HB1 := hide hb1
    have HSL := hide ((Sl.ok RByte.ok).mono K.out (below_keeps hb1) (fun k hk => Nat.lt_of_lt_of_le hk hb1.size))
    go_wp2_with fail
    refine (opc_any l A n c _ HSL.out).mono ?_
    rintro e w2 ⟨rfl, hb2⟩
    have HB2 := hide (hb1.trans (hb2.mono hb1.size))
    have hpl := opcG_len l
    obtain ⟨p, hp⟩ : ∃ p : ByteArray, p = ⟨(opcG l).toArray⟩ := ⟨_, rfl⟩
    have hps : p.size ≤ 330 := by rw [hp]; exact hpl
    rw [← hp]
    have e2 : (⟨#[50, 46]⟩ : ByteArray).size = 2 := rfl
    have e4 : (⟨#[49, 46, 50, 46]⟩ : ByteArray).size = 4 := rfl
    have hx2 := ba_size ⟨#[50, 46]⟩ p
    have hx4 := ba_size ⟨#[49, 46, 50, 46]⟩ s
    have hxb : ((⟨#[50, 46]⟩ : ByteArray) ++ p).size ≤ 1000 ∧ ((⟨#[49, 46, 50, 46]⟩ : ByteArray) ++ s).size ≤ 1000 := by omega
    obtain ⟨hxb2, hxb4⟩ := hxb
    clear hb1 hb2 hpl hp e2 e4 hx2 hx4
    go_wp2_with fail
    obtain ⟨W0, hW0⟩ : ∃ W0, W0 = w2.alloc (.cells #[.string s, .string p, .string ((⟨#[50, 46]⟩ : ByteArray) ++ p), .string ((⟨#[49, 46, 50, 46]⟩ : ByteArray) ++ s)] 9) := ⟨_, rfl⟩
    have hcells : ∀ k, k < 4 → ∃ x : ByteArray, x.size ≤ 1000 ∧ W0.cell? ⟨w2.heap.size, k, none⟩ = some (.string x) := fun k hk => by
      rw [hW0, World.cell?_alloc_new]
      match k, hk with
      | 0, _ => exact ⟨_, by omega, rfl⟩
      | 1, _ => exact ⟨_, by omega, rfl⟩
      | 2, _ => exact ⟨_, hxb2, rfl⟩
      | 3, _ => exact ⟨_, hxb4, rfl⟩
    have hb0 : Below w.heap.size w W0 := by rw [hW0]; exact HB2.out.alloc HB2.out.size _
    have hsz0 : W0.heap.size = w2.heap.size + 1 := by rw [hW0]; simp
    rw [← hW0]
    have HC := hide hcells
    have HB0 := hide hb0
    have HSZ := hide hsz0
    clear hcells hb0 hW0 hxb2 hxb4 hsz0
    go_loopw [25] (fun i wr => ∃ k : Nat, k ≤ 4 ∧ i = .int .i64 k ∧ Below W0.heap.size W0 wr) (fun i _ => 4 - (intOf i).toNat)
    case atStart => exact ⟨0, by omega, rfl, Below.refl _ _⟩
    case round =>
      obtain ⟨k, hk, rfl, hb⟩ := hrel
      have hbw : Below w.heap.size w wr := HB0.out.trans (hb.mono HB0.out.size)
      have HBW := hide hbw
      have HMXr := hide (HMX.out.below hbw)
      by_cases hlt : k < 4
      · obtain ⟨x, hxs, hcell0⟩ := HC.out k hlt
        have hcell : wr.cell? ⟨w2.heap.size, k, none⟩ = some (.string x) := (hb.cell (show w2.heap.size < W0.heap.size by have := HSZ.out; omega)).trans hcell0
        have HB := hide hb
        have hx6 : x.size ≤ 1000000 := by omega
        obtain ⟨o, ho⟩ : ∃ o, encP x.data.toList = o := ⟨_, rfl⟩
        obtain ⟨v, hv⟩ : ∃ v, validB x.data.toList = v := ⟨_, rfl⟩
        obtain ⟨B, m, hBm⟩ := encR_shape o
        have HE := hide (show encR (encP x.data.toList) = .tuple #[.string B, .int .i64 m] by rw [ho]; exact hBm)
        have HV := hide hv
        clear hcell0 hb hbw ho hv hBm
        go_wp2_with fail
        refine (Encode_any x hx6 _ HMXr.out).mono ?_
        rintro e w3 ⟨rfl, hb3⟩
        rw [HE.out]
        have HMX3 := hide (HMXr.out.below hb3)
        have HB3 := hide hb3
        clear hcell hb3
        go_wp2_with fail
        refine (rEncode_any x hx6 _).mono ?_
        rintro e w4 ⟨rfl, hb4⟩
        rw [HE.out]
        have HMX4 := hide (HMX3.out.below hb4)
        have HB4 := hide (HB3.out.trans (hb4.mono HB3.out.size))
        clear hb4
        go_wp2_with fail
        refine (Valid_any x hx6 _ HMX4.out).mono ?_
        rintro e w5 ⟨rfl, hb5⟩
        rw [HV.out]
        have HB5 := hide (HB4.out.trans (hb5.mono HB4.out.size))
        clear hb5
        go_wp2_with fail
        refine (rValid_any x hx6 _).mono ?_
        rintro e w6 ⟨rfl, hb6⟩
        rw [HV.out]
        have HB6 := hide (HB5.out.trans (hb6.mono HB5.out.size))
        clear hb6
        cases v
        all_goals
          go_wp2_with fail
          go_roundw
          case rel => exact ⟨k + 1, by omega, by go_num, HB.out.trans (HB6.out.mono HB.out.size)⟩
          case measure => simp [intOf]; omega
      · clear hb hbw
        go_wp2_with fail
        refine (oawake_any _ HMXr.out).mono ?_
        rintro e w3 ⟨rfl, hb3⟩
        go_wp2_with fail
        go_ret
        exact ⟨rfl, HBW.out.trans (hb3.mono HBW.out.size)⟩
  · go_enter Tryd.func3, Tryd.ntmps3
    go_wp2_with fail
    refine (oawake_any _ HMX.out).mono ?_
    rintro e w3 ⟨rfl, hb3⟩
    go_wp2_with fail
    go_ret
    exact ⟨rfl, hb3⟩
end Go.Proofs.YtbhcjohkbaaeiaaDoor
