/- The law TextEscape, its walk. -/
import Derived.Test.YtbhcjohkbaaeiaaTxtM
namespace Go.Proofs.Ytbhcjohkbaaeiaa
open Go.RowKit

theorem optR_none : optR none = .tuple #[.string ⟨#[]⟩, .bool false] := rfl
theorem optR_some (o : List UInt8) : optR (some o) = .tuple #[.string ⟨o.toArray⟩, .bool true] := rfl
theorem esc_len3 (l : List UInt8) : (l.flatMap escB).length ≤ 3 * l.length := by
  induction l with
  | nil => simp
  | cons c r ih =>
    rw [List.flatMap_cons, List.length_append, List.length_cons]
    have : (escB c).length ≤ 3 := by unfold escB; split <;> simp
    omega
theorem str_neq (a b : ByteArray) : (a.toList == b.toList) = (a.data.toList == b.data.toList) := by rw [ByteArray.toList_eq, ByteArray.toList_eq]
theorem Escape_b (s t : ByteArray) (hs : s.size ≤ 1000000) (ht : t.data.toList = s.data.toList.flatMap escB) (w : World) :
    Calls Try.prog 17 #[.string s] w fun e w' => e = .returned (.string t) ∧ Below w.heap.size w w' :=
  (Escape_any s hs w).mono fun e w' ⟨he, hb⟩ => ⟨by rw [he, ← ht], hb⟩
theorem rEscape_b (s t : ByteArray) (hs : s.size ≤ 1000000) (ht : t.data.toList = s.data.toList.flatMap escB) (w : World) :
    Calls Try.prog 20 #[.string s] w fun e w' => e = .returned (.string t) ∧ Below w.heap.size w w' :=
  (rEscape_any s hs w).mono fun e w' ⟨he, hb⟩ => ⟨by rw [he, ← ht], hb⟩

set_option maxRecDepth 100000 in
set_option maxHeartbeats 4000000 in
theorem TextEscape_any (s : ByteArray) (hsm : s.size ≤ maxLen) (l : List UInt8) (A : Option Addr) (n c : Nat) (w : World) (h : Sl RByte 1 w (Lt w.heap.size) l [.slice A n c]) :
    Calls Try.prog 7 #[.string s, .slice A n c] w fun e w' => e = .returned (.bool true) ∧ Below w.heap.size w w' := by
  have K := hide h
  clear h
  unfold maxLen at hsm
  by_cases hs : s.size ≤ 400
  · go_enter Try.func7, Try.ntmps7
    go_wp2_with fail
    refine (pieces_any l A n c _ K.out).mono ?_
    rintro e w2 ⟨rfl, hb2⟩
    have hpl := piecesG_len l
    obtain ⟨p, hp⟩ : ∃ p : ByteArray, p = ⟨(piecesG l).toArray⟩ := ⟨_, rfl⟩
    have hps : p.size ≤ 160 := by rw [hp]; exact hpl
    rw [← hp]
    have HB2 := hide hb2
    have hsz2 := hb2.size
    clear hpl hp hb2
    go_wp2_with fail
    go_loopw [23] (fun i wi => ∃ j : Nat, j ≤ 2 ∧ i = .int .i64 j ∧ Below (w2.heap.size + 1) (w2.alloc (.cells #[.string s, .string p] 9)) wi) (fun i _ => 2 - (intOf i).toNat)
    case atStart => exact ⟨0, by omega, rfl, Below.refl _ _⟩
    case round =>
      obtain ⟨j, hj, rfl, hbi⟩ := hrel
      have HBI := hide hbi
      have HBW := hide (HB2.out.trans ((((Below.refl _ w2).alloc (Nat.le_refl _) _).trans (hbi.mono (by omega))).mono (by omega)))
      have hsz3 := hbi.size
      simp only [World.size_alloc] at hsz3
      by_cases hlt2 : j < 2
      · have hcell : ∃ x : ByteArray, x.size ≤ 400 ∧ wr.cell? ⟨w2.heap.size, j, none⟩ = some (.string x) := by
          rw [hbi.cell (show w2.heap.size < w2.heap.size + 1 by omega), World.cell?_alloc_new]
          match j, hlt2 with
          | 0, _ => exact ⟨s, hs, rfl⟩
          | 1, _ => exact ⟨p, by omega, rfl⟩
        obtain ⟨x, hxs, hcell⟩ := hcell
        obtain ⟨t, ht⟩ : ∃ t : ByteArray, t.data.toList = x.data.toList.flatMap escB := ⟨⟨(x.data.toList.flatMap escB).toArray⟩, rfl⟩
        have hts : t.size ≤ 1200 := by
          rw [← size_string, ht]
          have := esc_len3 x.data.toList
          rw [size_string] at this
          omega
        have HT := hide ht
        have HU := hide (show unesc t.data.toList = some x.data.toList by rw [ht]; exact unesc_of_escape _)
        clear hbi ht
        obtain ⟨u, hu⟩ : ∃ u, unesc x.data.toList = u := ⟨_, rfl⟩
        have HX := hide hu
        have HX2 := hide (show runesc x.data.toList = u by rw [← unesc_eq, hu])
        clear hu
        go_wp2_with fail
        refine (Escape_b x t (by omega) HT.out _).mono ?_
        rintro e w3 ⟨rfl, hb3⟩
        have HB3 := hide (HBI.out.trans (hb3.mono hsz3))
        have hsz4 : w2.heap.size + 1 ≤ w3.heap.size := Nat.le_trans hsz3 hb3.size
        clear hb3 hcell
        go_wp2_with fail
        refine (Unescape_any x (by omega) _).mono ?_
        rintro e w4 ⟨rfl, hb4⟩
        have HB4 := hide (HB3.out.trans (hb4.mono hsz4))
        have hsz5 : w2.heap.size + 1 ≤ w4.heap.size := Nat.le_trans hsz4 hb4.size
        clear hb4
        rw [HX.out]
        cases u with
        | none =>
          rw [optR_none]
          go_wp2_with fail
          refine (rUnescape_any x (by omega) _).mono ?_
          rintro e w5 ⟨rfl, hb5⟩
          have HB5 := hide (HB4.out.trans (hb5.mono hsz5))
          have hsz6 : w2.heap.size + 1 ≤ w5.heap.size := Nat.le_trans hsz5 hb5.size
          clear hb5
          rw [HX2.out, optR_none]
          go_wp2_with fail
          refine (Unescape_any t (by omega) _).mono ?_
          rintro e w6 ⟨rfl, hb6⟩
          have HB6 := hide (HB5.out.trans (hb6.mono hsz6))
          have hsz7 : w2.heap.size + 1 ≤ w6.heap.size := Nat.le_trans hsz6 hb6.size
          clear hb6
          rw [HU.out, optR_some, string_eta]
          go_wp2_with fail
          refine (rEscape_b x t (by omega) HT.out _).mono ?_
          rintro e w7 ⟨rfl, hb7⟩
          have HB7 := hide (HB6.out.trans (hb7.mono hsz7))
          clear hb7
          go_wp2_with fail
          go_roundw
          case rel => exact ⟨j + 1, by omega, by go_num, HB7.out⟩
          case measure => simp [intOf]; omega
        | some a =>
          have hax : a.flatMap escB = x.data.toList := (unesc_iff _ _).1 HX.out
          have HAX := hide hax
          have hal : a.length ≤ x.size := by rw [← size_string, ← hax]; exact esc_len a
          clear hax
          obtain ⟨y, hy⟩ : ∃ y : ByteArray, y.data.toList = a := ⟨⟨a.toArray⟩, rfl⟩
          subst hy
          have hys : y.size ≤ 400 := by rw [size_string] at hal; omega
          clear hal
          rw [optR_some, string_eta]
          go_wp2_with fail
          refine (rUnescape_any x (by omega) _).mono ?_
          rintro e w5 ⟨rfl, hb5⟩
          have HB5 := hide (HB4.out.trans (hb5.mono hsz5))
          have hsz6 : w2.heap.size + 1 ≤ w5.heap.size := Nat.le_trans hsz5 hb5.size
          clear hb5
          rw [HX2.out, optR_some, string_eta]
          go_wp2_with fail
          refine (Unescape_any t (by omega) _).mono ?_
          rintro e w6 ⟨rfl, hb6⟩
          have HB6 := hide (HB5.out.trans (hb6.mono hsz6))
          have hsz7 : w2.heap.size + 1 ≤ w6.heap.size := Nat.le_trans hsz6 hb6.size
          clear hb6
          rw [HU.out, optR_some, string_eta]
          go_wp2_with fail
          refine (rEscape_b x t (by omega) HT.out _).mono ?_
          rintro e w7 ⟨rfl, hb7⟩
          have HB7 := hide (HB6.out.trans (hb7.mono hsz7))
          have hsz8 : w2.heap.size + 1 ≤ w7.heap.size := Nat.le_trans hsz7 hb7.size
          clear hb7
          go_wp2_with fail
          refine (Escape_b y x (by omega) HAX.out.symm _).mono ?_
          rintro e w8 ⟨rfl, hb8⟩
          have HB8 := hide (HB7.out.trans (hb8.mono hsz8))
          clear hb8
          go_wp2_with fail
          go_roundw
          case rel => exact ⟨j + 1, by omega, by go_num, HB8.out⟩
          case measure => simp [intOf]; omega
      · clear hbi
        go_wp2_with fail
        refine (awake_any _).mono ?_
        rintro e w3 ⟨rfl, hb3⟩
        go_wp2_with fail
        go_ret
        exact ⟨rfl, HBW.out.trans (hb3.mono HBW.out.size)⟩
  · go_enter Try.func7, Try.ntmps7
    go_wp2_with fail
    refine (awake_any _).mono ?_
    rintro e w3 ⟨rfl, hb3⟩
    go_wp2_with fail
    go_ret
    exact ⟨rfl, hb3⟩
end Go.Proofs.Ytbhcjohkbaaeiaa
