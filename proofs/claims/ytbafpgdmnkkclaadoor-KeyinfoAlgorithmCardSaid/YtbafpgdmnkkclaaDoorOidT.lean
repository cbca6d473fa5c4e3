/- The reference of package oid: DecodeOID. -/
import Derived.Test.YtbafpgdmnkkclaaDoorOidS
namespace Go.Proofs.YtbafpgdmnkkclaaDoor
open Go.RowKit

theorem expandL_bd {out : List Nat} (h : ∀ n ∈ out, n ≤ 2147483727) : ∀ n ∈ expandL out, n ≤ 4294967295 := by
  cases out with
  | nil => intro n hn; cases hn
  | cons v r =>
    intro n hn
    simp only [expandL, List.mem_cons] at hn
    have hv := h v (by simp)
    rcases hn with rfl | rfl | hn
    · have : firstA v ≤ 2 := Nat.min_le_right _ _
      omega
    · omega
    · have := h n (by simp [hn]); omega
theorem expandL_len' (out : List Nat) : (expandL out).length = if out = [] then 0 else out.length + 1 := by
  cases out <;> rfl
/-- what the loop of the reference's Decode keeps -/
def DecI (r : Option (List UInt8)) (rest : List UInt8) (v : Nat) (o : Bool) (out : List Nat) (S : ByteArray) : Prop :=
  S.data.toList = showL (expandL out) ∧ (∀ n ∈ out, n ≤ 2147483727) ∧ r = (numK o v rest).bind (fun l => finL (out ++ l))
theorem DecI.size {r : Option (List UInt8)} {rest : List UInt8} {v : Nat} {o : Bool} {out : List Nat} {S : ByteArray} (h : DecI r rest v o out S) (hl : out.length ≤ 11) : S.size ≤ 132 := by
  have h1 := showL_le (expandL out) (expandL_bd h.2.1)
  have h2 := expandL_len' out
  have h3 : S.size = (showL (expandL out)).length := by rw [← h.1, size_string]
  split at h2 <;> omega
theorem DecI.big {r : Option (List UInt8)} {c : UInt8} {rest : List UInt8} {v : Nat} {o : Bool} {out : List Nat} {S : ByteArray} (h : DecI r (c :: rest) v o out S) (hb : 2147483727 < v * 128 + c.toNat % 128) : r = none :=
  h.2.2.trans (numK_big rest o v c out hb)
theorem DecI.bad {r : Option (List UInt8)} {c : UInt8} {rest : List UInt8} {v : Nat} {out : List Nat} {S : ByteArray} (h : DecI r (c :: rest) v false out S) (hc : c = 128) : r = none := by
  rw [h.2.2, numK, if_pos ⟨rfl, hc⟩]; rfl
theorem DecI.cont {r : Option (List UInt8)} {c : UInt8} {rest : List UInt8} {v : Nat} {o : Bool} {out : List Nat} {S : ByteArray} (h : DecI r (c :: rest) v o out S) (hn : ¬ (o = false ∧ c = 128)) (hb : v * 128 + c.toNat % 128 ≤ 2147483727) (hc : 128 ≤ c.toNat) :
    DecI r rest (v * 128 + c.toNat % 128) true out S := by
  refine ⟨h.1, h.2.1, ?_⟩
  rw [h.2.2, numK, if_neg hn, if_neg (by omega), if_neg (by omega)]
theorem DecI.next {r : Option (List UInt8)} {c : UInt8} {rest : List UInt8} {v : Nat} {o : Bool} {out : List Nat} {S S' : ByteArray} (h : DecI r (c :: rest) v o out S) (hn : ¬ (o = false ∧ c = 128)) (hb : v * 128 + c.toNat % 128 ≤ 2147483727) (hc : c.toNat < 128)
    (hS : S'.data.toList = showL (expandL (out ++ [v * 128 + c.toNat % 128]))) : DecI r rest 0 false (out ++ [v * 128 + c.toNat % 128]) S' := by
  refine ⟨hS, fun n hn => ?_, ?_⟩
  · rcases List.mem_append.1 hn with hn | hn
    · exact h.2.1 n hn
    · simp at hn; omega
  · rw [h.2.2, numK, if_neg hn, if_neg (by omega), if_pos hc]
    cases numK false 0 rest with
    | none => rfl
    | some l => simp [List.append_assoc]
theorem DecI.long {r : Option (List UInt8)} {rest : List UInt8} {v : Nat} {o : Bool} {out : List Nat} {S : ByteArray} (h : DecI r rest v o out S) (hl : 11 < out.length) : r = none := h.2.2.trans (numK_long rest o v out hl)
theorem DecI.opn {r : Option (List UInt8)} {v : Nat} {out : List Nat} {S : ByteArray} (h : DecI r [] v true out S) : r = none := h.2.2
theorem DecI.fin {r : Option (List UInt8)} {v : Nat} {out : List Nat} {S : ByteArray} (h : DecI r [] v false out S) : r = if validB S.data.toList then some S.data.toList else none := by
  rw [h.1, ← finL_end, h.2.2, numK]
  simp
theorem DecI.first {r : Option (List UInt8)} {c : UInt8} {rest : List UInt8} {v : Nat} {o : Bool} {S S' : ByteArray} (h : DecI r (c :: rest) v o [] S) (hn : ¬ (o = false ∧ c = 128)) (hb : v * 128 + c.toNat % 128 ≤ 2147483727) (hc : c.toNat < 128)
    (hS : S'.data.toList = decL (firstA (v * 128 + c.toNat % 128)) ++ 46 :: decL (v * 128 + c.toNat % 128 - 40 * firstA (v * 128 + c.toNat % 128))) : DecI r rest 0 false [v * 128 + c.toNat % 128] S' :=
  h.next hn hb hc hS
theorem DecI.more {r : Option (List UInt8)} {c : UInt8} {rest : List UInt8} {v : Nat} {o : Bool} {out : List Nat} {S S' : ByteArray} (h : DecI r (c :: rest) v o out S) (h0 : out ≠ []) (hn : ¬ (o = false ∧ c = 128)) (hb : v * 128 + c.toNat % 128 ≤ 2147483727) (hc : c.toNat < 128)
    (hS : S'.data.toList = S.data.toList ++ 46 :: decL (v * 128 + c.toNat % 128)) : DecI r rest 0 false (out ++ [v * 128 + c.toNat % 128]) S' := by
  refine h.next hn hb hc ?_
  rw [hS, h.1, expandL_app h0, show_snoc]
  intro e
  have := expandL_len h0
  rw [e] at this
  simp at this

set_option maxRecDepth 100000 in
set_option maxHeartbeats 8000000 in
theorem rDecode_any (s : ByteArray) (hs : s.size ≤ 1000000) (w : World) :
    Calls Tryd.prog 42 #[.string s] w fun e w' => e = .returned (encR (decP s.data.toList)) ∧ Below w.heap.size w w' := by
  obtain ⟨r, hr⟩ : ∃ r, decP s.data.toList = r := ⟨_, rfl⟩
  rw [hr]
  have H0 := hide (show DecI r s.data.toList 0 false [] ⟨#[]⟩ from ⟨rfl, fun n hn => (by cases hn), by rw [← hr, decP_fin]; rfl⟩)
  have HZ := hide (show s.size = 0 → r = none from fun h => by
    have : s.data.toList = [] := List.eq_nil_of_length_eq_zero (by rw [size_string]; exact h)
    rw [← hr, decP_fin, this]; rfl)
  clear hr
  go_enter Tryd.func42, Tryd.ntmps42
  go_wp2_with fail
  go_loopw [4, 5, 6, 7, 8] (fun x4 x5 x6 x7 x8 wr => ∃ (k v : Nat) (o : Bool) (out : List Nat) (S : ByteArray), k ≤ s.size ∧ v ≤ 2147483727 ∧ x4 = .string S ∧ x5 = .int .i64 v ∧ x6 = .bool o ∧ x7 = .int .i64 ((expandL out).length : Nat) ∧ x8 = .int .i64 k ∧ Below w.heap.size w wr ∧ out.length ≤ 11 ∧ Hid (DecI r (s.data.toList.drop k) v o out S)) (fun _ _ _ _ i _ => s.size - (intOf i).toNat)
  case atStart => exact ⟨0, 0, false, [], ⟨#[]⟩, by omega, by omega, rfl, rfl, rfl, rfl, rfl, Below.refl _ _, by simp, H0⟩
  case round =>
    obtain ⟨k, v, o, out, S, hk, hvb, rfl, rfl, rfl, rfl, rfl, hb, hol, HI⟩ := hrel
    have hSz := HI.out.size hol
    obtain ⟨N, hN⟩ : ∃ N, (expandL out).length = N := ⟨_, rfl⟩
    have hN2 := expandL_len' out
    rw [hN] at hN2 ⊢
    have HN := hide hN
    have hNb : N ≤ 12 := by split at hN2 <;> omega
    have HB := hide hb
    clear hN hb
    by_cases hlt : k < s.size
    · have HD := drop_string s k hlt
      obtain ⟨c, hc⟩ : ∃ c, s[k] = c := ⟨_, rfl⟩
      rw [hc] at HD
      have HI2 := hide (HD ▸ HI.out)
      have hcl := byte_lt c
      have hk0 : (0 : Int) ≤ (k : Int) := by omega
      have hks : (k : Int) < (s.size : Int) := by omega
      clear HD
      by_cases hbad : o = false ∧ c = 128
      · obtain ⟨rfl, rfl⟩ := hbad
        have HX := hide (HI2.out.bad rfl)
        have ht : (((128 : UInt8).toNat : Int) == 128) = true := rfl
        clear hN2
        go_wp2_with fail
        go_ret2
        exact ⟨ret_encN HX.out, HB.out⟩
      · have HBAD := hide hbad
        have hc128 : o = true ∨ (o = false ∧ ((c.toNat : Int) == 128) = false) := by
          cases o
          · refine .inr ⟨rfl, ?_⟩
            rw [show ((c.toNat : Int) == 128) = (c == 128) from byte_beq' c 128]
            simp only [beq_eq_false_iff_ne]
            exact fun e => hbad ⟨rfl, e⟩
          · exact .inl rfl
        obtain ⟨v', hv'⟩ : ∃ v', v * 128 + c.toNat % 128 = v' := ⟨_, rfl⟩
        have hvi : 128 * (v : Int) + (c.toNat : Int) % 128 = (v' : Int) := by omega
        have HV := hide hv'
        clear hbad hv'
        rcases hc128 with rfl | ⟨rfl, ht⟩
        all_goals
          by_cases hbig : 2147483727 < v'
          · have HX := hide (HI2.out.big (by rw [HV.out]; exact hbig))
            clear hN2
            go_wp2_with fail
            go_ret2
            exact ⟨ret_encN HX.out, HB.out⟩
          · by_cases hc7 : 128 ≤ c.toNat
            · have HX := hide (HV.out ▸ HI2.out.cont HBAD.out (by rw [HV.out]; omega) hc7)
              have hdd : decide ((128 : Int) ≤ (c.toNat : Int)) = true := by simp; omega
              clear hN2
              go_wp2_with fail
              go_roundw
              case rel => exact ⟨k + 1, v', true, out, S, by omega, by omega, rfl, rfl, rfl, by rw [HN.out], by go_num, HB.out, hol, HX⟩
              case measure => simp [intOf]; omega
            · have hdd : decide ((128 : Int) ≤ (c.toNat : Int)) = false := by simp; omega
              by_cases h0 : out = []
              · have hN0 : N = 0 := by rw [hN2, if_pos h0]
                subst hN0
                subst h0
                obtain ⟨a, ha⟩ : ∃ a, firstA v' = a := ⟨_, rfl⟩
                have ha' : min (v' / 40) 2 = a := ha
                obtain ⟨b, hb⟩ : ∃ b, v' - 40 * a = b := ⟨_, rfl⟩
                have hmin : min ((v' : Int) / 40) 2 = (a : Int) := by omega
                have hsub : (v' : Int) - 40 * (a : Int) = (b : Int) := by omega
                have ha2 : a ≤ 2 := by omega
                have hbb : b ≤ 2147483727 := by omega
                obtain ⟨oa, hoa⟩ : ∃ oa : ByteArray, oa = (⟨(decL a).toArray⟩ : ByteArray) := ⟨_, rfl⟩
                obtain ⟨ob, hob⟩ : ∃ ob : ByteArray, ob = (⟨(decL b).toArray⟩ : ByteArray) := ⟨_, rfl⟩
                have hbs1 : oa.size ≤ 10 := by rw [hoa]; exact decL_len 9 a (by omega)
                have hbs2 : ob.size ≤ 10 := by rw [hob]; exact decL_len 9 b (by omega)
                have hd1 : (⟨#[46]⟩ : ByteArray).size = 1 := rfl
                have hbs3 : (oa ++ ⟨#[46]⟩).size ≤ 11 := by rw [ba_size]; omega
                have hbs4 : (oa ++ ⟨#[46]⟩ ++ ob).size ≤ 30 := by rw [ba_size]; omega
                have HX := hide (HI2.out.first (S' := oa ++ ⟨#[46]⟩ ++ ob) HBAD.out (by rw [HV.out]; omega) (by omega) (by rw [HV.out, ha, hb, hoa, hob, ba_append, ba_append]; simp))
                have DA := hide (fun w => hoa ▸ Dec_any a _ rfl (by omega) w)
                have DB := hide (fun w => hob ▸ Dec_any b _ rfl (by omega) w)
                clear hN2 ha ha' hb hoa hob hd1
                go_wp2_with fail
                refine (DA.out _).mono ?_
                rintro e w1 ⟨rfl, hb1⟩
                go_wp2_with fail
                refine (DB.out _).mono ?_
                rintro e w2 ⟨rfl, hb2⟩
                have HB2 := hide (HB.out.trans ((hb1.trans (hb2.mono hb1.size)).mono HB.out.size))
                clear hb1 hb2
                go_wp2_with fail
                go_roundw
                case rel => exact ⟨k + 1, 0, false, [v * 128 + c.toNat % 128], _, by omega, by omega, rfl, rfl, rfl, rfl, by go_num, HB2.out, by simp, HX⟩
                case measure => simp [intOf]; omega
              · have hN0 : N = out.length + 1 := by rw [hN2, if_neg h0]
                have hz : ((N : Int) == 0) = false := beq0_f (by omega)
                obtain ⟨ot, hot⟩ : ∃ ot : ByteArray, ot = (⟨(decL v').toArray⟩ : ByteArray) := ⟨_, rfl⟩
                have hot1 : ot.size ≤ 10 := by rw [hot]; exact decL_len 9 v' (by omega)
                have hd1 : (⟨#[46]⟩ : ByteArray).size = 1 := rfl
                have hot2 : ((⟨#[46]⟩ : ByteArray) ++ ot).size ≤ 11 := by rw [ba_size]; omega
                have hot3 : (S ++ ((⟨#[46]⟩ : ByteArray) ++ ot)).size ≤ 200 := by rw [ba_size]; omega
                have HX := hide (HI2.out.more (S' := S ++ ((⟨#[46]⟩ : ByteArray) ++ ot)) h0 HBAD.out (by rw [HV.out]; omega) (by omega) (by rw [HV.out, hot, ba_append, ba_append]; rfl))
                have DB := hide (fun w => hot ▸ Dec_any v' _ rfl (by omega) w)
                have HEL := hide (show (expandL (out ++ [v * 128 + c.toNat % 128])).length = N + 1 by rw [expandL_len (by simp), List.length_append, hN0]; rfl)
                clear hN2 hot hd1 h0
                go_wp2_with fail
                refine (DB.out _).mono ?_
                rintro e w2 ⟨rfl, hb2⟩
                have HB2 := hide (HB.out.trans (hb2.mono HB.out.size))
                clear hb2
                by_cases h12 : 11 < N
                · have HY := hide (HX.out.long (by rw [List.length_append]; simp; omega))
                  go_wp2_with fail
                  go_ret2
                  exact ⟨ret_encN HY.out, HB2.out⟩
                · go_wp2_with fail
                  go_roundw
                  case rel => exact ⟨k + 1, 0, false, out ++ [v * 128 + c.toNat % 128], _, by omega, by omega, rfl, rfl, rfl, by rw [HEL.out]; go_num, by go_num, HB2.out, by simp; omega, HX⟩
                  case measure => simp [intOf]; omega
    · have hE := drop_string_end s k (by omega)
      have HI2 := hide (hE ▸ HI.out)
      clear hE hN2
      by_cases hz : s.size = 0
      · have HX := hide (HZ.out hz)
        have ht := beq0_t hz
        clear hz
        go_wp2_with fail
        go_ret2
        exact ⟨ret_encN HX.out, HB.out⟩
      · have ht := beq0_f hz
        clear hz
        cases o
        · have HX := hide HI2.out.fin
          obtain ⟨q, hq⟩ : ∃ q, validB S.data.toList = q := ⟨_, rfl⟩
          have HQ := hide hq
          clear hq
          go_wp2_with fail
          refine (oidRValid_any S (by omega) _).mono ?_
          rintro e w2 ⟨rfl, hb2⟩
          rw [HQ.out]
          have HB2 := hide (HB.out.trans (hb2.mono HB.out.size))
          clear hb2
          cases q
          · go_wp2_with fail
            go_ret2
            exact ⟨ret_encN (by rw [HX.out, HQ.out]; rfl), HB2.out⟩
          · go_wp2_with fail
            go_ret2
            exact ⟨ret_encS (l := S.data.toList) (by rw [HX.out, HQ.out]; rfl), HB2.out⟩
        · have HX := hide HI2.out.opn
          go_wp2_with fail
          go_ret2
          exact ⟨ret_encN HX.out, HB.out⟩
end Go.Proofs.YtbafpgdmnkkclaaDoor
