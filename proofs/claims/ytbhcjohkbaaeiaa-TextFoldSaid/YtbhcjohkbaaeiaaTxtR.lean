/- The law TextFold, its walk. -/
import Derived.Test.YtbhcjohkbaaeiaaTxtN
import Derived.Deep.DrawnRows
import Derived.Deep.RegionWith
namespace Go.Proofs.Ytbhcjohkbaaeiaa
open Go.RowKit
attribute [local go_sem ↓] Go.wp_at_zero Go.wp_at_succ

theorem foldB_len (s : ByteArray) : (foldB s).length ≤ 2 * s.size := by
  have := foldG_len s.data.toList [] false
  rw [size_string] at this
  simpa [foldB] using this
theorem Fold_b (s t : ByteArray) (hs : s.size ≤ 1000000) (ht : t.data.toList = foldB s) (w : World) :
    Calls Try.prog 13 #[.string s] w fun e w' => e = .returned (.string t) ∧ Below w.heap.size w w' :=
  (Fold_any s hs w).mono fun e w' ⟨he, hb⟩ => ⟨by rw [he]; show _ = Ending.returned (.string ⟨t.data.toList.toArray⟩); rw [ht]; rfl, hb⟩
theorem rFold_b (s t : ByteArray) (hs : s.size ≤ 1000000) (ht : t.data.toList = foldB s) (w : World) :
    Calls Try.prog 14 #[.string s] w fun e w' => e = .returned (.string t) ∧ Below w.heap.size w w' :=
  (rFold_any s hs w).mono fun e w' ⟨he, hb⟩ => ⟨by rw [he, ← fold_eq]; show _ = Ending.returned (.string ⟨t.data.toList.toArray⟩); rw [ht]; rfl, hb⟩
theorem rMatch_b (a b : ByteArray) (ha : a.size ≤ 1000000) (hb : b.size ≤ 1000000) (p : Bool) (hp : (foldB a == foldB b) = p) (w : World) :
    Calls Try.prog 16 #[.string a, .string b] w fun e w' => e = .returned (.bool p) ∧ Below w.heap.size w w' :=
  (rMatch_any a b ha hb w).mono fun e w' ⟨he, hb⟩ => ⟨by rw [he, ← fold_eq, ← fold_eq, ← hp]; rfl, hb⟩


set_option maxRecDepth 100000 in
set_option maxHeartbeats 16000000 in
theorem TextFold_any (s t : ByteArray) (hsm : s.size ≤ maxLen) (htm : t.size ≤ maxLen) (l m : List UInt8) (A B : Option Addr) (n c n' c' : Nat) (w : World) (h : Sl RByte 1 w (Lt w.heap.size) l [.slice A n c]) (h' : Sl RByte 1 w (Lt w.heap.size) m [.slice B n' c']) :
    Calls Try.prog 5 #[.string s, .string t, .slice A n c, .slice B n' c'] w fun e w' => e = .returned (.bool true) ∧ Below w.heap.size w w' := by
  have K := hide h
  have K' := hide h'
  clear h h'
  unfold maxLen at hsm htm
  by_cases hs : s.size ≤ 400 ∧ t.size ≤ 400
  · obtain ⟨hs, ht⟩ := hs
    go_enter Try.func5, Try.ntmps5
    go_wp2_with fail
    refine (pieces_any l A n c _ K.out).mono ?_
    rintro e w1 ⟨rfl, hb⟩
    have HB := hide hb
    have HSL := hide ((Sl.ok RByte.ok).mono K.out (below_keeps hb) (fun k hk => Nat.lt_of_lt_of_le hk hb.size))
    have HSL' := hide ((Sl.ok RByte.ok).mono K'.out (below_keeps hb) (fun k hk => Nat.lt_of_lt_of_le hk hb.size))
    have hpl := piecesG_len l
    obtain ⟨p, hp⟩ : ∃ p : ByteArray, p = ⟨(piecesG l).toArray⟩ := ⟨_, rfl⟩
    have hps : p.size ≤ 160 := by rw [hp]; exact hpl
    rw [← hp]
    have HP := hide hp
    clear hpl hp hb
    go_wp2_with fail
    refine (pieces_any m B n' c' _ HSL'.out).mono ?_
    rintro e w2 ⟨rfl, hb⟩
    have HB2 := hide (HB.out.trans (hb.mono HB.out.size))
    have HSL2 := hide ((Sl.ok RByte.ok).mono HSL.out (below_keeps hb) (fun k hk => Nat.lt_of_lt_of_le hk hb.size))
    have hpl := piecesG_len m
    obtain ⟨q, hq⟩ : ∃ p : ByteArray, p = ⟨(piecesG m).toArray⟩ := ⟨_, rfl⟩
    have hqs : q.size ≤ 160 := by rw [hq]; exact hpl
    rw [← hq]
    clear hpl hq hb
    go_wp2_with fail
    refine (pieces_any l A n c _ HSL2.out).mono ?_
    rintro e w3 ⟨rfl, hb⟩
    have HB3 := hide (HB2.out.trans (hb.mono HB2.out.size))
    have HSL3 := hide ((Sl.ok RByte.ok).mono HSL2.out (below_keeps hb) (fun k hk => Nat.lt_of_lt_of_le hk hb.size))
    rw [← HP.out]
    clear hb
    go_wp2_with fail
    refine (pieces_any l A n c _ HSL3.out).mono ?_
    rintro e w4 ⟨rfl, hb⟩
    have HB4 := hide (HB3.out.trans (hb.mono HB3.out.size))
    rw [← HP.out]
    clear hb
    go_wp2_with fail
    refine (Lower_any p (by omega) _).mono ?_
    rintro e w5 ⟨rfl, hb⟩
    have HB5 := hide (HB4.out.trans (hb.mono HB4.out.size))
    obtain ⟨d, hd⟩ : ∃ d : ByteArray, d = ⟨(p.data.toList.map low).toArray⟩ := ⟨_, rfl⟩
    have hds : d.size ≤ 160 := by rw [hd, ← size_string]; simp only [List.length_map]; rw [size_string]; exact hps
    rw [← hd]
    clear hb hd
    have hx := ba_size ⟨#[32]⟩ d
    have hx1 : (⟨#[32]⟩ : ByteArray).size = 1 := rfl
    have hz : ((⟨#[32]⟩ : ByteArray) ++ d).size ≤ 161 := by omega
    clear hx hx1
    have hsz5 := HB5.out.size
    go_wp2_with fail
    go_loopw [37] (fun i wi => ∃ j : Nat, j ≤ 3 ∧ i = .int .i64 j ∧ Below (w5.heap.size + 1) (w5.alloc (.cells #[.string s, .string t, .string p, .string q, .string p, .string ((⟨#[32]⟩ : ByteArray) ++ d)] 30)) wi) (fun i _ => 3 - (intOf i).toNat)
    case atStart => exact ⟨0, by omega, rfl, Below.refl _ _⟩
    case round =>
      obtain ⟨j, hj, rfl, hbi⟩ := hrel
      have HBI := hide hbi
      have HBW := hide (HB5.out.trans ((((Below.refl _ w5).alloc (Nat.le_refl _) _).trans (hbi.mono (by omega))).mono (by omega)))
      have hsz3 := hbi.size
      simp only [World.size_alloc] at hsz3
      by_cases hlt2 : j < 3
      · have hcell : ∃ x y : ByteArray, x.size ≤ 400 ∧ y.size ≤ 400 ∧ wr.cell? ⟨w5.heap.size, j * 2, none⟩ = some (.string x) ∧ wr.cell? ⟨w5.heap.size, j * 2 + 1, none⟩ = some (.string y) := by
          rw [hbi.cell (show w5.heap.size < w5.heap.size + 1 by omega), hbi.cell (show w5.heap.size < w5.heap.size + 1 by omega), World.cell?_alloc_new, World.cell?_alloc_new]
          match j, hlt2 with
          | 0, _ => exact ⟨s, t, hs, ht, rfl, rfl⟩
          | 1, _ => exact ⟨p, q, by omega, by omega, rfl, rfl⟩
          | 2, _ => exact ⟨p, _, by omega, by omega, rfl, rfl⟩
        obtain ⟨x, y, hxs, hys, hcell, hcell2⟩ := hcell
        clear hbi
        obtain ⟨f, hf⟩ : ∃ f : ByteArray, f.data.toList = foldB x := ⟨⟨(foldB x).toArray⟩, rfl⟩
        have hfs : f.size ≤ 1000000 := by rw [← size_string, hf]; have := foldB_len x; omega
        have HF := hide hf
        have HF2 := hide (show f.data.toList = foldB f by rw [hf, foldB, foldB, hf]; exact (fold_fold _).symm)
        have HXF := hide (show (foldB x == foldB f) = true by rw [← HF2.out, hf]; simp)
        clear hf
        obtain ⟨b, hb⟩ : ∃ b, (foldB x == foldB y) = b := ⟨_, rfl⟩
        have HXY := hide hb
        clear hb
        have hxs' : x.size ≤ 1000000 := by omega
        have hys' : y.size ≤ 1000000 := by omega
        obtain ⟨V, hV⟩ : ∃ V : World, V = wr.alloc (.cells #[.string x, .string y] 30) := ⟨_, rfl⟩
        have hVc : V.cell? ⟨wr.heap.size, 0, none⟩ = some (.string x) ∧ V.cell? ⟨wr.heap.size, 1, none⟩ = some (.string y) := by rw [hV, World.cell?_alloc_new, World.cell?_alloc_new]; exact ⟨rfl, rfl⟩
        have HK := hide (show ∀ w' : World, w'.heap[wr.heap.size]? = V.heap[wr.heap.size]? → w'.cell? ⟨wr.heap.size, 0, none⟩ = some (.string x) ∧ w'.cell? ⟨wr.heap.size, 1, none⟩ = some (.string y) from fun w' hw' =>
          ⟨(World.cell?_of_block (a := ⟨wr.heap.size, 0, none⟩) hw').trans hVc.1, (World.cell?_of_block (a := ⟨wr.heap.size, 1, none⟩) hw').trans hVc.2⟩)
        have HC := hide (show Below (wr.heap.size + 1) V V.drew from (Below.refl _ _).drew)
        have hsz : wr.heap.size + 1 ≤ V.drew.heap.size := by rw [hV]; simp
        have HBV := hide (show Below (w5.heap.size + 1) wr V by rw [hV]; exact (Below.refl _ _).alloc hsz3 _)
        clear hVc
        cases b
        all_goals
          go_wp2_with fail
          rw [← hV]
          clear hV
          go_region_held3 (fun w' => w'.cell? ⟨wr.heap.size, 0, none⟩ = some (.string x) ∧ w'.cell? ⟨wr.heap.size, 1, none⟩ = some (.string y))
            (exact HK.out _ (HC.out.block _ (by omega)))
            (first
              | ((go_at_call_of 13 (Value.string x); refine (Fold_b x f hxs' HF.out _).mono ?_; rintro e w9 ⟨rfl, hb9⟩; have HC9 := hide (HC.out.trans (hb9.mono hsz)); clear HC; have HC := HC9; clear HC9; replace hsz := Nat.le_trans hsz hb9.size; clear hb9))
              | ((go_at_call_of 13 (Value.string f); refine (Fold_b f f hfs HF2.out _).mono ?_; rintro e w9 ⟨rfl, hb9⟩; have HC9 := hide (HC.out.trans (hb9.mono hsz)); clear HC; have HC := HC9; clear HC9; replace hsz := Nat.le_trans hsz hb9.size; clear hb9))
              | ((go_at_call 14; refine (rFold_b x f hxs' HF.out _).mono ?_; rintro e w9 ⟨rfl, hb9⟩; have HC9 := hide (HC.out.trans (hb9.mono hsz)); clear HC; have HC := HC9; clear HC9; replace hsz := Nat.le_trans hsz hb9.size; clear hb9))
              | ((go_at_call_of 15 (Value.string y); refine (Match_b x y hxs' hys' _ HXY.out _).mono ?_; rintro e w9 ⟨rfl, hb9⟩; have HC9 := hide (HC.out.trans (hb9.mono hsz)); clear HC; have HC := HC9; clear HC9; replace hsz := Nat.le_trans hsz hb9.size; clear hb9))
              | ((go_at_call 16; refine (rMatch_b x y hxs' hys' _ HXY.out _).mono ?_; rintro e w9 ⟨rfl, hb9⟩; have HC9 := hide (HC.out.trans (hb9.mono hsz)); clear HC; have HC := HC9; clear HC9; replace hsz := Nat.le_trans hsz hb9.size; clear hb9))
              | ((go_at_call_of 15 (Value.string f); refine (Match_b x f hxs' hfs _ HXF.out _).mono ?_; rintro e w9 ⟨rfl, hb9⟩; have HC9 := hide (HC.out.trans (hb9.mono hsz)); clear HC; have HC := HC9; clear HC9; replace hsz := Nat.le_trans hsz hb9.size; clear hb9)))
          all_goals
            go_wp2_with fail
            go_roundw
            case rel => exact ⟨j + 1, by omega, by go_num, (HBI.out.trans HBV.out).trans (HC.out.mono (by omega))⟩
            case measure => simp [intOf]; omega
      · clear hbi
        go_wp2_with fail
        refine (awake_any _).mono ?_
        rintro e w6 ⟨rfl, hb3⟩
        go_wp2_with fail
        go_ret
        exact ⟨rfl, HBW.out.trans (hb3.mono HBW.out.size)⟩
  · have hs' : 400 < s.size ∨ (s.size ≤ 400 ∧ 400 < t.size) := by omega
    clear hs
    rcases hs' with hs | ⟨hs, hs2⟩
    all_goals
      go_enter Try.func5, Try.ntmps5
      go_wp2_with fail
      refine (awake_any _).mono ?_
      rintro e w3 ⟨rfl, hb3⟩
      go_wp2_with fail
      go_ret
      exact ⟨rfl, hb3⟩
end Go.Proofs.Ytbhcjohkbaaeiaa
