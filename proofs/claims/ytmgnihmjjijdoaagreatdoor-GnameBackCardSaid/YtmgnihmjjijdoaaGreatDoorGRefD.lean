/- The reference's parts, Mail. -/
import Derived.Test.YtmgnihmjjijdoaaGreatDoorGHosF
import Derived.Deep.QuietTactic
namespace Go.Proofs.YtmgnihmjjijdoaaGreatDoor
open Go.RowKit
theorem index_none (c : UInt8) : ∀ l : List UInt8, (∀ x ∈ l, x ≠ c) → Lib.index l [c] = -1
  | [], _ => rfl
  | b :: l, h => by
    have hb : b ≠ c := h b (by simp)
    have ih := index_none c l (fun x hx => h x (by simp [hx]))
    have hp : ([c].isPrefixOf (b :: l)) = false := by
      simp only [List.isPrefixOf, Bool.and_true, beq_eq_false_iff_ne]
      exact fun e => hb e.symm
    unfold Lib.index
    rw [hp, ih]
    rfl
theorem index_hit (c : UInt8) (r : List UInt8) : ∀ l : List UInt8, (∀ x ∈ l, x ≠ c) → Lib.index (l ++ c :: r) [c] = (l.length : Int)
  | [], _ => by
    show Lib.index (c :: r) [c] = 0
    unfold Lib.index
    simp [List.isPrefixOf]
  | b :: l, h => by
    have hb : b ≠ c := h b (by simp)
    have ih := index_hit c r l (fun x hx => h x (by simp [hx]))
    have hp : ([c].isPrefixOf (b :: (l ++ c :: r))) = false := by
      simp only [List.isPrefixOf, Bool.and_true, beq_eq_false_iff_ne]
      exact fun e => hb e.symm
    show Lib.index (b :: (l ++ c :: r)) [c] = _
    unfold Lib.index
    rw [hp, ih]
    have : (((l.length : Int)) == -1) = false := by rw [beq_eq_false_iff_ne]; omega
    rw [this]
    simp
theorem cutA_none (l : List UInt8) (h : ∀ x ∈ l, x ≠ 64) : cutA l = (l, [], false) := by
 unfold cutA Lib.cut
 rw [index_none 64 l h, if_neg (by omega)]
theorem cutA_hit (l r : List UInt8) (h : ∀ x ∈ l, x ≠ 64) : cutA (l ++ 64 :: r) = (l, r, true) := by
 unfold cutA Lib.cut
 rw [index_hit 64 r l h, if_pos (by omega), Int.toNat_natCast, List.take_left' rfl, show l.length + [(64 : UInt8)].length = (l ++ [(64 : UInt8)]).length by simp, show l ++ 64 :: r = (l ++ [64]) ++ r by simp, List.drop_left' rfl]
theorem at_form : ∀ s : List UInt8, (∀ x ∈ s, x ≠ (64 : UInt8)) ∨ ∃ l r : List UInt8, s = l ++ 64 :: r ∧ ∀ x ∈ l, x ≠ (64 : UInt8)
  | [] => .inl (fun x hx => by cases hx)
  | b :: s => by
    by_cases hb : b = 64
    · exact .inr ⟨[], s, by rw [hb]; rfl, fun x hx => by cases hx⟩
    · rcases at_form s with h | ⟨l, r, h, h2⟩
      · exact .inl (fun x hx => by
          rcases List.mem_cons.1 hx with rfl | hx
          · exact hb
          · exact h x hx)
      · exact .inr ⟨b :: l, r, by rw [h]; rfl, fun x hx => by
          rcases List.mem_cons.1 hx with rfl | hx
          · exact hb
          · exact h2 x hx⟩
theorem contains_cons (b : UInt8) (l sub : List UInt8) : Lib.contains (b :: l) sub = (sub.isPrefixOf (b :: l) || Lib.contains l sub) := by
  unfold Lib.contains
  have hi : ∀ l : List UInt8, Lib.index l sub = -1 ∨ 0 ≤ Lib.index l sub := by
    intro l
    induction l with
    | nil => unfold Lib.index; split <;> omega
    | cons x l ih =>
      unfold Lib.index
      by_cases hp : sub.isPrefixOf (x :: l) = true
      · rw [if_pos hp]; omega
      · rw [if_neg hp]
        rcases ih with h | h
        · rw [h]; exact .inl rfl
        · have : (Lib.index l sub == -1) = false := by rw [beq_eq_false_iff_ne]; omega
          rw [this]; right; show (0 : Int) ≤ Lib.index l sub + 1; omega
  by_cases hp : sub.isPrefixOf (b :: l) = true
  · rw [hp, Lib.index, if_pos hp]; simp
  · have hp' : sub.isPrefixOf (b :: l) = false := Bool.eq_false_iff.2 hp
    rw [hp', Bool.false_or, Lib.index, if_neg hp]
    rcases hi l with h | h
    · rw [h]; rfl
    · have : (Lib.index l sub == -1) = false := by rw [beq_eq_false_iff_ne]; omega
      rw [this, decide_eq_true h]
      exact decide_eq_true (by show (0 : Int) ≤ Lib.index l sub + 1; omega)
theorem dots_cons (b n : UInt8) (l r : List UInt8) (h : (l ++ 64 :: r).getD 0 0 = n) : Lib.contains (b :: l) [46, 46] = ((b == 46 && n == 46) || Lib.contains l [46, 46]) := by
  rw [contains_cons]
  congr 1
  match l, h with
  | [], h =>
    have hn : n = 64 := h.symm
    subst hn
    simp [List.isPrefixOf]
  | x :: l, h =>
    have hn : n = x := h.symm
    subst hn
    simp only [List.isPrefixOf, Bool.and_true]
    rw [Bool.beq_comm (a := (46 : UInt8)) (b := b), Bool.beq_comm (a := (46 : UInt8)) (b := n)]
def PartsPost (s : List UInt8) (n : Nat) (q : Bool) (w : World) (e : Ending) (w' : World) : Prop :=
 ∃ a b : ByteArray, Hid (a.data.toList = (if q = true then (cutA s).1 else []) ∧ b.data.toList = (if q = true then (cutA s).2.1 else [])) ∧ a.size ≤ n ∧ b.size ≤ n ∧ e = .returned (.tuple #[.string a, .string b, .bool q]) ∧ Below w.heap.size w w'
theorem parts_no {s : List UInt8} {n : Nat} {q : Bool} {w w' : World} (h : q = false) (hb : Below w.heap.size w w') : PartsPost s n q w (.returned (.tuple #[.string ⟨#[]⟩, .string ⟨#[]⟩, .bool false])) w' := by
 subst h
 exact ⟨⟨#[]⟩, ⟨#[]⟩, hide ⟨rfl, rfl⟩, Nat.zero_le _, Nat.zero_le _, rfl, hb⟩
theorem among_v (c : UInt8) (q : Bool) (hq : locSet.contains c = q) (w : World) :
  Calls Tryz.prog 114 #[.int .u8 (c.toNat : Int), .string ⟨#[33, 35, 36, 37, 38, 39, 42, 43, 45, 47, 61, 63, 94, 95, 96, 123, 124, 125, 126, 46]⟩] w fun e w' => e = .returned (.bool q) ∧ w = w' :=
 hq ▸ Among_any c ⟨#[33, 35, 36, 37, 38, 39, 42, 43, 45, 47, 61, 63, 94, 95, 96, 123, 124, 125, 126, 46]⟩ (by decide) w
theorem str_at {s : ByteArray} {l : List UInt8} (h : s.data.toList = l) (i : Nat) (hi : i < l.length) (t : TypeId) (ht : Tryz.prog.underlying t = some .string) (I : Int) (hI : I = i) : ∀ W : World, (Instr.index t (.string s) (.int .i64 I)).run Tryz.prog W = .ok (.int .u8 (l[i].toNat : Int)) W := fun W => by
 subst hI
 have hs : i < s.size := by rw [← size_string, h]; exact hi
 have h9 := run_index_string (P := Tryz.prog) (w := W) t s .i64 (i : Int) ht
 rw [h9, dif_pos (by omega)]
 have h8 : s[i] = l[i] := by
  have h7 : s.data.toList[i]'(by rw [h]; exact hi) = l[i] := by simp only [h]
  rw [← h7]
  simp
  rfl
 simp only [Int.toNat_natCast, h8]
set_option maxRecDepth 100000 in
set_option maxHeartbeats 8000000 in
theorem rparts_any (s : ByteArray) (hs : s.size ≤ 1000000) (q : Bool) (hq : mailB s.data.toList = q) (w : World) :
  Calls Tryz.prog 90 #[.string s] w (PartsPost s.data.toList s.size q w) := by
 have hss := size_string s
 have HB0 := hide (Below.refl w.heap.size w)
 by_cases h1 : s.size ≤ 128
 ·have hn1 : ¬ 128 < s.size := by omega
  rcases at_form s.data.toList with hno | ⟨l, r, hlr, hl⟩
  ·have hq2 : q = false := by rw [← hq, mailB, cutA_none _ hno]; rfl
   have HQ := hide hq2
   obtain ⟨ls, hls⟩ : ∃ ls, s.data.toList = ls := ⟨_, rfl⟩
   have HLS := hide hls
   have hsl : ls.length = s.size := by rw [← hls]; exact hss
   rw [hls] at hno
   have HNO := hide hno
   clear hq hq2 hss hno hls
   go_enter Tryz.func90, Tryz.ntmps90
   go_wp2_with fail
   go_loopw [5] (fun i wi => ∃ j : Nat, j ≤ s.size ∧ i = .int .i64 j ∧ w = wi) (fun i _ => s.size - (intOf i).toNat)
   case atStart => exact ⟨0, Nat.zero_le _, rfl, rfl⟩
   case round =>
    obtain ⟨j, hj, rfl, rfl⟩ := hrel
    by_cases hjl : j < s.size
    ·have hjl' : (j : Int) < (s.size : Int) := by omega
     have hix := str_at HLS.out j (by omega) 9 Tryz.underlying9 (j : Int) rfl
     obtain ⟨b, hb⟩ : ∃ b, ls[j] = b := ⟨_, rfl⟩
     have hb64 : b ≠ 64 := by rw [← hb]; exact HNO.out _ (List.getElem_mem _)
     rw [hb] at hix
     have t1 : ((b.toNat : Int) != 64) = true := by
      rw [bne, show ((b.toNat : Int) == 64) = (b == 64) from byte_beq b 64, beq_eq_false_iff_ne.2 hb64]; rfl
     clear hb hb64
     go_wp2_with fail
     go_roundw
     case rel => exact ⟨j + 1, by omega, by go_num, trivial⟩
     case measure => simp [intOf]; omega
    ·obtain rfl : j = s.size := by omega
     by_cases h0 : s.size < 1
     ·have h0' : (s.size : Int) < 1 := by omega
      go_wp2_with fail
      exact bodyPost_ret (v := .tuple #[.string ⟨#[]⟩, .string ⟨#[]⟩, .bool false]) (by simp [results, Tryz.results90, go_sem]) rfl (parts_no HQ.out HB0.out)
     ·have h0' : ¬ (s.size : Int) < 1 := by omega
      by_cases h64 : 64 < s.size
      ·have h64' : (64 : Int) < (s.size : Int) := by omega
       go_wp2_with fail
       exact bodyPost_ret (v := .tuple #[.string ⟨#[]⟩, .string ⟨#[]⟩, .bool false]) (by simp [results, Tryz.results90, go_sem]) rfl (parts_no HQ.out HB0.out)
      ·have h64' : ¬ (64 : Int) < (s.size : Int) := by omega
       go_wp2_with fail
       exact bodyPost_ret (v := .tuple #[.string ⟨#[]⟩, .string ⟨#[]⟩, .bool false]) (by simp [results, Tryz.results90, go_sem]) rfl (parts_no HQ.out HB0.out)
  ·have hsz : s.size = l.length + 1 + r.length := by rw [← hss, hlr]; simp; omega
   have HLR := hide hlr
   obtain ⟨x, hx⟩ : ∃ x : ByteArray, x = s.extract 0 l.length := ⟨_, rfl⟩
   obtain ⟨y, hy⟩ : ∃ y : ByteArray, y = s.extract (l.length + 1) s.size := ⟨_, rfl⟩
   have hxl : x.data.toList = l := by rw [hx, Lib.extract_data, hlr]; simp
   have hyl : y.data.toList = r := by
    rw [hy, Lib.extract_data, List.take_of_length_le (by rw [List.length_drop, hss]; omega), hlr, show l ++ 64 :: r = (l ++ [64]) ++ r by simp, show l.length + 1 = (l ++ [(64 : UInt8)]).length by simp, List.drop_left' rfl]
   have hxs : x.size ≤ s.size := by rw [← size_string, hxl]; omega
   have hys : y.size ≤ s.size := by rw [← size_string, hyl]; omega
   have HS1 : ∀ W : World, (Instr.slice 9 (.string s) none (some (.int .i64 (l.length : Int))) none).run Tryz.prog W = .ok (.string x) W := fun W => by
    have h9 := run_slice_string_h (P := Tryz.prog) W 9 s Tryz.underlying9 .i64 (l.length : Int) (by omega) (by omega)
    rw [h9, hx, Int.toNat_natCast]
   have HS2 : ∀ W : World, (Instr.slice 9 (.string s) (some (.int .i64 ((l.length : Int) + 1))) none none).run Tryz.prog W = .ok (.string y) W := fun W => by
    have h9 := run_slice_string_l (P := Tryz.prog) W 9 s Tryz.underlying9 .i64 ((l.length : Int) + 1) (by omega) (by omega)
    rw [h9, hy, show ((l.length : Int) + 1).toNat = l.length + 1 by omega]
   obtain ⟨p2, hp2⟩ : ∃ p, dnsB y.data.toList = p := ⟨_, rfl⟩
   have HQ0 := hide (show q = (locB l && p2) by
    rw [← hq, mailB, hss, decide_eq_true h1, hlr, cutA_hit l r hl, ← hp2, hyl]; rfl)
   have HP2 := hide hp2
   have HXY := hide (show x.data.toList = (cutA s.data.toList).1 ∧ y.data.toList = (cutA s.data.toList).2.1 by rw [hlr, cutA_hit l r hl]; exact ⟨hxl, hyl⟩)
   have HL := hide hl
   have HAT := hide (fun (i : Nat) (hi : i < l.length) (I : Int) (hI : I = i) => (show ∀ W : World, (Instr.index 9 (.string s) (.int .i64 I)).run Tryz.prog W = .ok (.int .u8 (l[i].toNat : Int)) W by
    have h := str_at hlr i (by simp; omega) 9 Tryz.underlying9 I hI
    rw [List.getElem_append_left hi] at h
    exact h))
   have HNXT := hide (fun (i : Nat) (hi : i < l.length) => (show ∃ n : UInt8, (l.drop (i + 1) ++ 64 :: r).getD 0 0 = n ∧ ∀ W : World, (Instr.index 9 (.string s) (.int .i64 ((i : Int) + 1))).run Tryz.prog W = .ok (.int .u8 (n.toNat : Int)) W by
    have hlt : i + 1 < (l ++ 64 :: r).length := by simp; omega
    have h := str_at hlr (i + 1) hlt 9 Tryz.underlying9 ((i : Int) + 1) (by omega)
    refine ⟨_, ?_, h⟩
    have hd : l.drop (i + 1) ++ 64 :: r = (l ++ 64 :: r).drop (i + 1) := by rw [List.drop_append_of_le_length (by omega)]
    rw [hd, List.getD_eq_getElem?_getD, List.getElem?_drop]
    show ((l ++ 64 :: r)[i + 1]?).getD 0 = _
    rw [List.getElem?_eq_getElem hlt]; rfl))
   have h64 : ∀ W : World, (Instr.index 9 (.string s) (.int .i64 (l.length : Int))).run Tryz.prog W = .ok (.int .u8 64) W := by
    have h := str_at hlr l.length (by simp) 9 Tryz.underlying9 (l.length : Int) rfl
    rw [List.getElem_append_right (Nat.le_refl _)] at h
    simpa using h
   have H64 := hide h64
   have hsl : l.length + 1 ≤ s.size := by omega
   clear hq hlr hl hx hy hxl hyl hp2 h64 hss hsz
   go_enter Tryz.func90, Tryz.ntmps90
   go_wp2_with fail
   go_loopw [5] (fun i wi => ∃ j : Nat, j ≤ l.length ∧ i = .int .i64 j ∧ w = wi) (fun i _ => l.length - (intOf i).toNat)
   case atStart => exact ⟨0, Nat.zero_le _, rfl, rfl⟩
   case round =>
    obtain ⟨j, hj, rfl, rfl⟩ := hrel
    have hjs : (j : Int) < (s.size : Int) := by omega
    by_cases hjl : j < l.length
    ·have hix := HAT.out j hjl (j : Int) rfl
     obtain ⟨b, hb⟩ : ∃ b, l[j] = b := ⟨_, rfl⟩
     have hb64 : b ≠ 64 := by rw [← hb]; exact HL.out _ (List.getElem_mem _)
     rw [hb] at hix
     have t1 : ((b.toNat : Int) != 64) = true := by
      rw [bne, show ((b.toNat : Int) == 64) = (b == 64) from byte_beq b 64, beq_eq_false_iff_ne.2 hb64]; rfl
     clear hb hb64
     go_wp2_with fail
     go_roundw
     case rel => exact ⟨j + 1, by omega, by go_num, trivial⟩
     case measure => simp [intOf]; omega
    ·obtain rfl : j = l.length := by omega
     have i64 := H64.out
     by_cases g1 : 1 ≤ l.length
     ·by_cases g2 : l.length ≤ 64
      ·have m1 : ¬ (l.length : Int) < 1 := by omega
       have m2 : ¬ (64 : Int) < (l.length : Int) := by omega
       have m3 : ((l.length : Int) == (s.size : Int)) = false := by rw [beq_eq_false_iff_ne]; omega
       have m4 : decide (l.length = s.size) = false := by rw [decide_eq_false_iff_not]; omega
       have hq2 : q = ((!(l[0] == 46) && !(l[l.length - 1] == 46) && !(Lib.contains l [46, 46]) && l.all locC) && p2) := by
        rw [HQ0.out, locB, decide_eq_true g1, decide_eq_true g2, List.getD_eq_getElem?_getD, List.getD_eq_getElem?_getD, List.getElem?_eq_getElem (show 0 < l.length by omega), List.getElem?_eq_getElem (show l.length - 1 < l.length by omega)]; rfl
       have i0 := HAT.out 0 (by omega) 0 rfl
       have i9 := HAT.out (l.length - 1) (by omega) ((l.length : Int) - 1) (by omega)
       obtain ⟨b0, hb0⟩ : ∃ b, l[0] = b := ⟨_, rfl⟩
       obtain ⟨b9, hb9⟩ : ∃ b, l[l.length - 1] = b := ⟨_, rfl⟩
       rw [hb0] at i0 hq2
       rw [hb9] at i9 hq2
       have HQ2 := hide hq2
       clear hb0 hb9 hq2
       go_wp2_with fail
       refine (rdns_any y (by omega) p2 HP2.out _).mono ?_
       rintro e w1 ⟨rfl, hb1⟩
       have HBW := hide hb1
       clear hb1
       cases p2
       ·have HN := hide (show q = false by rw [HQ2.out, Bool.and_false])
        go_wp2_with fail
        exact bodyPost_ret (v := .tuple #[.string ⟨#[]⟩, .string ⟨#[]⟩, .bool false]) (by simp [results, Tryz.results90, go_sem]) rfl (parts_no HN.out HBW.out)
       ·obtain ⟨p0, hp0⟩ : ∃ p, (b0 == 46) = p := ⟨_, rfl⟩
        have t0 : ((b0.toNat : Int) == 46) = p0 := (byte_beq b0 46).trans hp0
        obtain ⟨p9, hp9⟩ : ∃ p, (b9 == 46) = p := ⟨_, rfl⟩
        have t9 : ((b9.toNat : Int) == 46) = p9 := (byte_beq b9 46).trans hp9
        have HQ3 := hide (show q = (!p0 && !p9 && !(Lib.contains l [46, 46]) && l.all locC) by rw [HQ2.out, hp0, hp9, Bool.and_true])
        clear hp0 hp9
        cases p0
        ·cases p9
         ·have H3 := hide (show q = (!(Lib.contains (l.drop 0) [46, 46]) && (l.drop 0).all locC) from HQ3.out)
          go_wp2_with fail
          clear t0 t9 i0 i9 i64
          go_loopw [6] (fun i wi => ∃ j : Nat, j ≤ l.length ∧ i = .int .i64 j ∧ w1 = wi ∧ Hid (q = (!(Lib.contains (l.drop j) [46, 46]) && (l.drop j).all locC))) (fun i _ => l.length - (intOf i).toNat)
          case atStart => exact ⟨0, Nat.zero_le _, rfl, rfl, H3⟩
          case round =>
           obtain ⟨j, hj, rfl, rfl, H⟩ := hrel
           by_cases hjl : j < l.length
           ·have hjl' : (j : Int) < (l.length : Int) := by omega
            have hjs2 : (j : Int) < (s.size : Int) := by omega
            have hjs3 : (j : Int) + 1 < (s.size : Int) := by omega
            have hix := HAT.out j hjl (j : Int) rfl
            obtain ⟨n, hn, hin⟩ := HNXT.out j hjl
            obtain ⟨b, hb⟩ : ∃ b, l[j] = b := ⟨_, rfl⟩
            rw [hb] at hix
            obtain ⟨p1, hp1⟩ : ∃ x, alnum b = x := ⟨_, rfl⟩
            obtain ⟨p4, hp4⟩ : ∃ x, locSet.contains b = x := ⟨_, rfl⟩
            obtain ⟨p5, hp5⟩ : ∃ x, (b == 46) = x := ⟨_, rfl⟩
            obtain ⟨p6, hp6⟩ : ∃ x, (n == 46) = x := ⟨_, rfl⟩
            have t5 : ((b.toNat : Int) == 46) = p5 := (byte_beq b 46).trans hp5
            have t6 : ((n.toNat : Int) == 46) = p6 := (byte_beq n 46).trans hp6
            have hloc : locC b = (p1 || p4) := by rw [← hp1, ← hp4]; rfl
            have HX := hide (show q = ((!((p5 && p6) || Lib.contains (l.drop (j + 1)) [46, 46])) && ((p1 || p4) && (l.drop (j + 1)).all locC)) by
             rw [H.out, List.drop_eq_getElem_cons hjl, hb, dots_cons b n _ r hn, List.all_cons, hloc, hp5, hp6])
            have P1 := hide hp1
            have P4 := hide hp4
            clear hb hn hp1 hp4 hp5 hp6 hloc H
            go_wp2_with fail
            refine (alnum_v b p1 P1.out _).mono ?_
            rintro e w5 ⟨rfl, rfl⟩
            cases p1
            ·go_wp2_with fail
             refine (among_v b p4 P4.out _).mono ?_
             rintro e w5 ⟨rfl, rfl⟩
             cases p4
             ·have HN := hide (show q = false from HX.out.trans (by simp))
              go_wp2_with fail
              exact bodyPost_ret (v := .tuple #[.string ⟨#[]⟩, .string ⟨#[]⟩, .bool false]) (by simp [results, Tryz.results90, go_sem]) rfl (parts_no HN.out HBW.out)
             ·cases p5
              ·have HY := hide (show q = (!(Lib.contains (l.drop (j + 1)) [46, 46]) && (l.drop (j + 1)).all locC) from HX.out.trans (by simp))
               go_wp2_with fail
               go_roundw
               case rel => exact ⟨j + 1, by omega, by go_num, trivial, HY⟩
               case measure => simp [intOf]; omega
              ·cases p6
               ·have HY := hide (show q = (!(Lib.contains (l.drop (j + 1)) [46, 46]) && (l.drop (j + 1)).all locC) from HX.out.trans (by simp))
                go_wp2_with fail
                go_roundw
                case rel => exact ⟨j + 1, by omega, by go_num, trivial, HY⟩
                case measure => simp [intOf]; omega
               ·have HN := hide (show q = false from HX.out.trans (by simp))
                go_wp2_with fail
                exact bodyPost_ret (v := .tuple #[.string ⟨#[]⟩, .string ⟨#[]⟩, .bool false]) (by simp [results, Tryz.results90, go_sem]) rfl (parts_no HN.out HBW.out)
            ·cases p5
             ·have HY := hide (show q = (!(Lib.contains (l.drop (j + 1)) [46, 46]) && (l.drop (j + 1)).all locC) from HX.out.trans (by simp))
              go_wp2_with fail
              go_roundw
              case rel => exact ⟨j + 1, by omega, by go_num, trivial, HY⟩
              case measure => simp [intOf]; omega
             ·cases p6
              ·have HY := hide (show q = (!(Lib.contains (l.drop (j + 1)) [46, 46]) && (l.drop (j + 1)).all locC) from HX.out.trans (by simp))
               go_wp2_with fail
               go_roundw
               case rel => exact ⟨j + 1, by omega, by go_num, trivial, HY⟩
               case measure => simp [intOf]; omega
              ·have HN := hide (show q = false from HX.out.trans (by simp))
               go_wp2_with fail
               exact bodyPost_ret (v := .tuple #[.string ⟨#[]⟩, .string ⟨#[]⟩, .bool false]) (by simp [results, Tryz.results90, go_sem]) rfl (parts_no HN.out HBW.out)
           ·obtain rfl : j = l.length := by omega
            have hqt : q = true := by rw [H.out, List.drop_length]; rfl
            have HQT := hide hqt
            clear H hqt
            go_upto_region 13 with (fail)
            go_quiet (fail)
            go_wp2_with fail
            exact bodyPost_ret (v := .tuple #[.string x, .string y, .bool true]) (by simp [results, Tryz.results90, go_sem]) rfl ⟨x, y, hide (by rw [HQT.out, if_pos rfl, if_pos rfl]; exact HXY.out), hxs, hys, by rw [HQT.out], below_drewN HBW.out _⟩
         ·have HN := hide (show q = false from HQ3.out.trans (by simp))
          go_wp2_with fail
          exact bodyPost_ret (v := .tuple #[.string ⟨#[]⟩, .string ⟨#[]⟩, .bool false]) (by simp [results, Tryz.results90, go_sem]) rfl (parts_no HN.out HBW.out)
        ·have HN := hide (show q = false from HQ3.out.trans (by simp))
         go_wp2_with fail
         exact bodyPost_ret (v := .tuple #[.string ⟨#[]⟩, .string ⟨#[]⟩, .bool false]) (by simp [results, Tryz.results90, go_sem]) rfl (parts_no HN.out HBW.out)
      ·have m1 : ¬ (l.length : Int) < 1 := by omega
       have m2 : (64 : Int) < (l.length : Int) := by omega
       have HN := hide (show q = false by rw [HQ0.out, locB, decide_eq_false g2]; simp)
       go_wp2_with fail
       exact bodyPost_ret (v := .tuple #[.string ⟨#[]⟩, .string ⟨#[]⟩, .bool false]) (by simp [results, Tryz.results90, go_sem]) rfl (parts_no HN.out HB0.out)
     ·have m1 : (l.length : Int) < 1 := by omega
      have HN := hide (show q = false by rw [HQ0.out, locB, decide_eq_false g1]; simp)
      go_wp2_with fail
      exact bodyPost_ret (v := .tuple #[.string ⟨#[]⟩, .string ⟨#[]⟩, .bool false]) (by simp [results, Tryz.results90, go_sem]) rfl (parts_no HN.out HB0.out)
 ·have hn1 : 128 < s.size := by omega
  have HN := hide (show q = false by rw [← hq, mailB, hss, decide_eq_false h1]; simp)
  clear hq
  go_enter Tryz.func90, Tryz.ntmps90
  go_wp2_with fail
  exact bodyPost_ret (v := .tuple #[.string ⟨#[]⟩, .string ⟨#[]⟩, .bool false]) (by simp [results, Tryz.results90, go_sem]) rfl (parts_no HN.out HB0.out)
end Go.Proofs.YtmgnihmjjijdoaaGreatDoor
namespace Go.Proofs.YtmgnihmjjijdoaaGreatDoor
open Go.RowKit
set_option maxHeartbeats 1000000 in
theorem rmail_any (s : ByteArray) (hs : s.size ≤ 1000000) (q : Bool) (hq : mailB s.data.toList = q) (w : World) :
  Calls Tryz.prog 51 #[.string s] w fun e w' => e = .returned (.bool q) ∧ Below w.heap.size w w' := by
 have PT := hide (rparts_any s hs q hq w)
 clear hq
 go_enter Tryz.func51, Tryz.ntmps51
 go_wp2_with fail
 refine PT.out.mono ?_
 rintro e w1 ⟨a, b, H, ha, hb, rfl, hb1⟩
 go_wp2_with fail
 go_ret
 exact ⟨rfl, hb1⟩
theorem mail_len {s : List UInt8} (h : mailB s = true) : s.length ≤ 128 := by
 unfold mailB at h
 simp only [Bool.and_eq_true, decide_eq_true_eq] at h
 exact h.1.1.2
theorem dns_len {s : List UInt8} (h : dnsB s = true) : s.length ≤ 128 := by
 unfold dnsB at h
 simp only [Bool.and_eq_true, decide_eq_true_eq] at h
 exact h.1
theorem dns_dot (r : List UInt8) : dnsB (46 :: r) = false := by
 have h : splitC 46 (46 :: r) = [] :: splitC 46 r := splitC_hit 46 [] r (fun x hx => by cases hx)
 unfold dnsB
 rw [h, List.all_cons, show labB [] = false by decide, Bool.false_and, Bool.and_false]
theorem rmb_eq (s : List UInt8) : mbB s = (mailB s || (dnsB s || (decide (s.length ≤ 128) && decide (1 < s.length) && (s.getD 0 0 == 46) && dnsB (s.drop 1)))) := by
  unfold mbB
  match s with
  | [] => decide
  | b :: r =>
    by_cases hb : b = 46
    · subst hb
      have ht : Lib.trimPrefix (46 :: r) [46] = r := by
        unfold Lib.trimPrefix Lib.hasPrefix
        rw [if_pos (by simp [List.isPrefixOf])]; rfl
      rw [ht, dns_dot]
      simp only [List.getD_cons_zero, List.drop_succ_cons, List.drop_zero, Bool.false_or]
      by_cases hm : mailB (46 :: r) = true
      · rw [hm, decide_eq_true (mail_len hm)]; rfl
      · rw [Bool.eq_false_iff.2 hm, Bool.false_or, Bool.false_or]
        by_cases hr : r = []
        · subst hr; rw [dns_nil]; simp
        · have : 0 < r.length := List.length_pos_iff.2 hr
          rw [decide_eq_true (show 1 < (46 :: r).length by simp; omega)]
          simp
    · have ht : Lib.trimPrefix (b :: r) [46] = b :: r := by
        unfold Lib.trimPrefix Lib.hasPrefix
        rw [if_neg]
        simp only [List.isPrefixOf, Bool.and_true, beq_iff_eq]
        exact fun e => hb e.symm
      rw [ht, show ((b :: r).getD 0 0 == 46) = false from beq_eq_false_iff_ne.2 hb]
      simp only [Bool.and_false, Bool.false_and, Bool.or_false]
      by_cases hm : (mailB (b :: r) || dnsB (b :: r)) = true
      · rw [hm, Bool.and_true]
        rcases Bool.or_eq_true_iff.1 hm with h | h
        · exact decide_eq_true (mail_len h)
        · exact decide_eq_true (dns_len h)
      · rw [Bool.eq_false_iff.2 hm, Bool.and_false]
set_option maxHeartbeats 2000000 in
theorem rmb_any (s : ByteArray) (hs : s.size ≤ 1000000) (q : Bool) (hq : mbB s.data.toList = q) (w : World) :
  Calls Tryz.prog 82 #[.string s] w fun e w' => e = .returned (.bool q) ∧ Below w.heap.size w w' := by
 have hss := size_string s
 rw [rmb_eq, hss] at hq
 obtain ⟨p1, hp1⟩ : ∃ p, mailB s.data.toList = p := ⟨_, rfl⟩
 obtain ⟨p2, hp2⟩ : ∃ p, dnsB s.data.toList = p := ⟨_, rfl⟩
 rw [hp1, hp2] at hq
 have HP1 := hide hp1
 have HP2 := hide hp2
 clear hp1 hp2
 cases p1
 ·cases p2
  ·by_cases h1 : s.size ≤ 128
   ·by_cases h2 : 1 < s.size
    ·have hp0 : 0 < s.size := by omega
     rw [decide_eq_true h1, decide_eq_true h2, getD_str s 0 hp0] at hq
     obtain ⟨y, hy⟩ : ∃ y : ByteArray, y = s.extract 1 s.size := ⟨_, rfl⟩
     have hyl : y.data.toList = s.data.toList.drop 1 := by
      rw [hy, Lib.extract_data, List.take_of_length_le]
      rw [List.length_drop, hss]; omega
     have hys : y.size ≤ 1000000 := by rw [hy, ba_size_ex _ _ _ (Nat.le_refl _)]; omega
     have HS2 : ∀ W : World, (Instr.slice 9 (.string s) (some (.int .i64 1)) none none).run Tryz.prog W = .ok (.string y) W := fun W => by
      have h9 := run_slice_string_l (P := Tryz.prog) W 9 s Tryz.underlying9 .i64 1 (by omega) (by omega)
      rw [h9, hy]; rfl
     rw [← hyl] at hq
     obtain ⟨p4, hp4⟩ : ∃ p, dnsB y.data.toList = p := ⟨_, rfl⟩
     rw [hp4] at hq
     have HP4 := hide hp4
     obtain ⟨p3, hp3⟩ : ∃ p, (s[0]'hp0 == 46) = p := ⟨_, rfl⟩
     have t3 : (((s[0]'hp0).toNat : Int) == 46) = p3 := (byte_beq (s[0]'hp0) 46).trans hp3
     rw [hp3] at hq
     have HQ := hide (show (p3 && p4) = q by rw [← hq]; rfl)
     have e1 : (s.size : Int) ≤ 128 := by omega
     have e2 : (1 : Int) < (s.size : Int) := by omega
     clear hq hyl hy hp3 hp4 hss
     go_enter Tryz.func82, Tryz.ntmps82
     go_wp2_with fail
     refine (rmail_any s hs false HP1.out _).mono ?_
     rintro e w1 ⟨rfl, hb1⟩
     have HB1 := hide hb1
     clear hb1
     go_wp2_with fail
     refine (rdns_any s hs false HP2.out _).mono ?_
     rintro e w2 ⟨rfl, hb2⟩
     have HB2 := hide (HB1.out.trans (hb2.mono HB1.out.size))
     clear hb2
     cases p3
     ·have HN := hide (show q = false from HQ.out.symm)
      go_wp2_with fail
      go_ret
      exact ⟨ret_bool HN.out.symm, HB2.out⟩
     ·go_wp2_with fail
      refine (rdns_any y hys p4 HP4.out _).mono ?_
      rintro e w3 ⟨rfl, hb3⟩
      have HB3 := hide (HB2.out.trans (hb3.mono HB2.out.size))
      clear hb3
      go_wp2_with fail
      go_ret
      exact ⟨ret_bool (by rw [← HQ.out]; rfl), HB3.out⟩
    ·have HQ := hide (show q = false by rw [← hq, decide_eq_false h2]; simp)
     have e1 : (s.size : Int) ≤ 128 := by omega
     have e2 : ¬ (1 : Int) < (s.size : Int) := by omega
     clear hq hss
     go_enter Tryz.func82, Tryz.ntmps82
     go_wp2_with fail
     refine (rmail_any s hs false HP1.out _).mono ?_
     rintro e w1 ⟨rfl, hb1⟩
     have HB1 := hide hb1
     clear hb1
     go_wp2_with fail
     refine (rdns_any s hs false HP2.out _).mono ?_
     rintro e w2 ⟨rfl, hb2⟩
     have HN := hide (show q = false from HQ.out)
     go_wp2_with fail
     go_ret
     exact ⟨ret_bool HN.out.symm, HB1.out.trans (hb2.mono HB1.out.size)⟩
   ·have HQ := hide (show q = false by rw [← hq, decide_eq_false h1]; simp)
    have e1 : ¬ (s.size : Int) ≤ 128 := by omega
    clear hq hss
    go_enter Tryz.func82, Tryz.ntmps82
    go_wp2_with fail
    refine (rmail_any s hs false HP1.out _).mono ?_
    rintro e w1 ⟨rfl, hb1⟩
    have HB1 := hide hb1
    clear hb1
    go_wp2_with fail
    refine (rdns_any s hs false HP2.out _).mono ?_
    rintro e w2 ⟨rfl, hb2⟩
    have HN := hide (show q = false from HQ.out)
    go_wp2_with fail
    go_ret
    exact ⟨ret_bool HN.out.symm, HB1.out.trans (hb2.mono HB1.out.size)⟩
  ·have HQ := hide (show true = q by rw [← hq]; rfl)
   clear hq hss
   go_enter Tryz.func82, Tryz.ntmps82
   go_wp2_with fail
   refine (rmail_any s hs false HP1.out _).mono ?_
   rintro e w1 ⟨rfl, hb1⟩
   have HB1 := hide hb1
   clear hb1
   go_wp2_with fail
   refine (rdns_any s hs true HP2.out _).mono ?_
   rintro e w2 ⟨rfl, hb2⟩
   go_wp2_with fail
   go_ret
   exact ⟨ret_bool HQ.out, HB1.out.trans (hb2.mono HB1.out.size)⟩
 ·have HQ := hide (show true = q by rw [← hq]; rfl)
  clear hq hss
  go_enter Tryz.func82, Tryz.ntmps82
  go_wp2_with fail
  refine (rmail_any s hs true HP1.out _).mono ?_
  rintro e w1 ⟨rfl, hb1⟩
  go_wp2_with fail
  go_ret
  exact ⟨ret_bool HQ.out, hb1⟩
set_option maxHeartbeats 4000000 in
theorem rmm_any (a b : ByteArray) (ha : a.size ≤ 1000000) (hb : b.size ≤ 1000000) (q : Bool) (hq : mmB a.data.toList b.data.toList = q) (w : World) :
  Calls Tryz.prog 52 #[.string a, .string b] w fun e w' => e = .returned (.bool q) ∧ Below w.heap.size w w' := by
 obtain ⟨p1, hp1⟩ : ∃ p, mailB a.data.toList = p := ⟨_, rfl⟩
 obtain ⟨p2, hp2⟩ : ∃ p, mailB b.data.toList = p := ⟨_, rfl⟩
 have HQ := hide (show (p1 && p2 && ((cutA a.data.toList).1 == (cutA b.data.toList).1 && eqF (cutA a.data.toList).2.1 (cutA b.data.toList).2.1)) = q by rw [← hq, mmB, hp1, hp2])
 have HP1 := hide hp1
 have HP2 := hide hp2
 clear hq hp1 hp2
 go_enter Tryz.func52, Tryz.ntmps52
 go_wp2_with fail
 refine (rparts_any a ha p1 HP1.out _).mono ?_
 rintro e w1 ⟨a1, a2, HA, ha1, ha2, rfl, hb1⟩
 have HB1 := hide hb1
 clear hb1
 go_wp2_with fail
 refine (rparts_any b hb p2 HP2.out _).mono ?_
 rintro e w2 ⟨b1, b2, HB, hb1, hb2, rfl, hw2⟩
 have HB2 := hide (HB1.out.trans (hw2.mono HB1.out.size))
 clear hw2
 cases p1
 ·have HN := hide (show q = false from HQ.out.symm)
  go_wp2_with fail
  go_ret
  exact ⟨ret_bool HN.out.symm, HB2.out⟩
 ·cases p2
  ·have HN := hide (show q = false from HQ.out.symm)
   go_wp2_with fail
   go_ret
   exact ⟨ret_bool HN.out.symm, HB2.out⟩
  ·have HA1 := hide (show a1.data.toList = (cutA a.data.toList).1 from HA.out.1)
   have HB3 := hide (show b1.data.toList = (cutA b.data.toList).1 from HB.out.1)
   obtain ⟨p3, hp3⟩ : ∃ p, (a1.toList == b1.toList) = p := ⟨_, rfl⟩
   obtain ⟨p4, hp4⟩ : ∃ p, eqF a2.data.toList b2.data.toList = p := ⟨_, rfl⟩
   have HQ2 := hide (show (p3 && p4) = q by
    have h2 : a2.data.toList = (cutA a.data.toList).2.1 := HA.out.2
    have h3 : b2.data.toList = (cutA b.data.toList).2.1 := HB.out.2
    rw [← HQ.out, ← HA1.out, ← HB3.out, ← h2, ← h3, hp4, ← hp3, str_beq]; rfl)
   have HP4 := hide hp4
   clear hp4
   cases p3
   ·have n1 : ¬ a1.toList = b1.toList := beq_eq_false_iff_ne.1 hp3
    have HN := hide (show q = false from HQ2.out.symm)
    go_wp2_with fail
    go_ret
    exact ⟨ret_bool HN.out.symm, HB2.out⟩
   ·have n1 : a1.toList = b1.toList := eq_of_beq hp3
    go_wp2_with fail
    refine (ralike_any a2 b2 (by omega) (by omega) p4 HP4.out _).mono ?_
    rintro e w3 ⟨rfl, hw3⟩
    go_wp2_with fail
    go_ret
    exact ⟨ret_bool (by rw [← HQ2.out]; rfl), HB2.out.trans (hw3.mono HB2.out.size)⟩
end Go.Proofs.YtmgnihmjjijdoaaGreatDoor
