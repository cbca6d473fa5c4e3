/- The functions of package text and its reference: what each computes, by walking its code. First part: single bytes, Valid of the kinds of bytes. -/
import Derived.Test.YtbafpgdmnkkclaaGreatDoorLib
import Derived.Test.YtbafpgdmnkkclaaGreatDoorShelf
import Derived.Lib.IndexAny
namespace Go.Proofs.YtbafpgdmnkkclaaGreatDoor
open Go.RowKit

def letterB (c : Int) : Bool := decide (97 ≤ c) && decide (c ≤ 122) || decide (65 ≤ c) && decide (c ≤ 90) || decide (48 ≤ c) && decide (c ≤ 57)
def alnum (c : UInt8) : Bool := letterB (c.toNat : Int)
def plainSet : List UInt8 := [32, 39, 40, 41, 45, 46, 47, 58, 63, 64, 95]
def printSet : List UInt8 := [32, 39, 40, 41, 43, 44, 45, 46, 47, 58, 61, 63]
def isPlain (c : UInt8) : Bool := alnum c || plainSet.contains c
def isPrint (c : UInt8) : Bool := alnum c || printSet.contains c
def isIA5 (c : UInt8) : Bool := decide (32 ≤ (c.toNat : Int)) && decide ((c.toNat : Int) ≤ 126)

set_option maxHeartbeats 400000 in
theorem letter_any (c : UInt8) (w : World) :
    Calls Tryz.prog 105 #[.int .u8 (c.toNat : Int)] w fun e w' => e = .returned (.bool (alnum c)) ∧ w = w' := by
  unfold alnum
  generalize (c.toNat : Int) = c
  go_enter Tryz.func105, Tryz.ntmps105
  go_wp2
  all_goals go_ret
  all_goals (refine ⟨ret_bool ?_, rfl⟩; unfold letterB; rw [Bool.eq_iff_iff]; simp; omega)

set_option maxHeartbeats 400000 in
theorem Alnum_any (c : UInt8) (w : World) :
    Calls Tryz.prog 110 #[.int .u8 (c.toNat : Int)] w fun e w' => e = .returned (.bool (alnum c)) ∧ w = w' := by
  unfold alnum
  generalize (c.toNat : Int) = c
  go_enter Tryz.func110, Tryz.ntmps110
  go_wp2
  all_goals go_ret
  all_goals (refine ⟨ret_bool ?_, rfl⟩; unfold letterB; rw [Bool.eq_iff_iff]; simp; omega)

theorem byte_beq (a b : UInt8) : ((a.toNat : Int) == (b.toNat : Int)) = (a == b) := by
  rw [Bool.eq_iff_iff]
  simp only [beq_iff_eq]
  constructor
  · intro h
    exact UInt8.toNat_inj.1 (by omega)
  · rintro rfl; rfl

set_option maxHeartbeats 400000 in
theorem Among_any (c : UInt8) (s : ByteArray) (hs : s.size ≤ maxLen) (w : World) :
    Calls Tryz.prog 111 #[.int .u8 (c.toNat : Int), .string s] w fun e w' => e = .returned (.bool (s.data.toList.contains c)) ∧ w = w' := by
  unfold maxLen at hs
  obtain ⟨r, hr⟩ : ∃ r, r = s.data.toList.contains c := ⟨_, rfl⟩
  rw [← hr]
  have HR := hide hr
  clear hr
  go_enter Tryz.func111, Tryz.ntmps111
  go_wp2
  go_loop [5] (fun i => ∃ k : Nat, k ≤ s.size ∧ i = .int .i64 k ∧ Hid (r = (s.data.toList.drop k).contains c)) (fun i => s.size - (intOf i).toNat)
  case atStart => exact ⟨0, Nat.zero_le _, rfl, HR⟩
  case round =>
    obtain ⟨k, hk, rfl, H⟩ := hrel
    by_cases hlt : k < s.size
    · have hd := drop_string s k hlt
      have hb := byte_beq s[k] c
      have H2 : Hid (r = (s.data.toList.drop k).contains c ∧ s.data.toList.drop k = s[k] :: s.data.toList.drop (k + 1)) := ⟨H, hd⟩
      clear hd H
      by_cases hc : s[k] = c
      · have hb' : ((s[k].toNat : Int) == (c.toNat : Int)) = true := by simp [hc]
        have H3 := hide hc
        clear hc hb
        go_wp2
        go_ret
        refine ⟨ret_bool ?_, rfl⟩
        obtain ⟨h1, h2⟩ := H2
        rw [h1, h2, H3.out]
        simp
      · have hb' : ((s[k].toNat : Int) == (c.toNat : Int)) = false := by simp [hb, hc]
        have H3 := hide hc
        clear hc hb
        go_wp2
        go_round
        case rel =>
          refine ⟨k + 1, by omega, by go_num, ?_⟩
          obtain ⟨h1, h2⟩ := H2
          have h3 := H3.out
          show r = _
          rw [h1, h2, List.contains_cons]
          simp [Ne.symm h3]
        case measure => simp [intOf]; omega
    · have H2 := hide (drop_string_end s k (by omega))
      go_wp2
      go_ret
      refine ⟨ret_bool ?_, rfl⟩
      rw [H.out, H2.out]
      simp

theorem indexByte_ge0 (l : List UInt8) (c : UInt8) : decide (0 ≤ Lib.indexByte l (c.toNat : Int).toNat.toUInt8) = l.contains c := by
  rw [toUInt8_byte, ← Lib.contains_iff_indexByte]

set_option maxHeartbeats 400000 in
theorem Print_any (c : UInt8) (w : World) :
    Calls Tryz.prog 104 #[.int .u8 (c.toNat : Int)] w fun e w' => e = .returned (.bool (isPrint c)) ∧ w = w' := by
  have hi := indexByte_ge0 printSet c
  unfold printSet at hi
  have H := hide hi
  clear hi
  have hb := byte_lt c
  by_cases hl : alnum c = true
  · have H2 := hide hl
    go_enter Tryz.func104, Tryz.ntmps104
    go_wp2_with fail
    refine (letter_any c _).mono ?_
    rintro e w' ⟨rfl, rfl⟩
    go_wp2_with fail
    go_ret
    exact ⟨ret_bool (by simp [isPrint, H2.out]), rfl⟩
  · have H2 := hide hl
    go_enter Tryz.func104, Tryz.ntmps104
    go_wp2_with fail
    refine (letter_any c _).mono ?_
    rintro e w' ⟨rfl, rfl⟩
    go_wp2_with fail
    refine (Tryz.strings_IndexByte _ _ _).mono ?_
    rintro e w' ⟨rfl, rfl⟩
    go_wp2_with fail
    go_ret
    refine ⟨ret_bool ?_, rfl⟩
    unfold isPrint printSet
    rw [← H.out]
    simp [H2.out]

set_option maxHeartbeats 400000 in
theorem IA5_any (c : UInt8) (w : World) :
    Calls Tryz.prog 107 #[.int .u8 (c.toNat : Int)] w fun e w' => e = .returned (.bool (isIA5 c)) ∧ w = w' := by
  unfold isIA5
  generalize (c.toNat : Int) = c
  go_enter Tryz.func107, Tryz.ntmps107
  go_wp2
  all_goals go_ret
  all_goals (refine ⟨ret_bool ?_, rfl⟩; rw [Bool.eq_iff_iff]; simp; omega)
end Go.Proofs.YtbafpgdmnkkclaaGreatDoor

/- The functions of package text and its reference, second part: all, Valid of the kinds of bytes, plain, Lower, Fold. -/
namespace Go.Proofs.YtbafpgdmnkkclaaGreatDoor
open Go.RowKit

theorem info_u8 : (Tryz.prog.info? 5).map (fun i => (i.zero, i.size, i.bytes)) = some (some (.int .u8 0), 1, 1) := by kernel_rfl

set_option maxHeartbeats 400000 in
theorem all_any (p : UInt8 → Bool) (f : Nat) (hcf : ∀ (x : Value) (W : World), (callFunc f #[x]).run Tryz.prog W = .ok (.enter f #[x]) W)
    (hp : ∀ (c : UInt8) (W : World), Calls Tryz.prog f #[.int .u8 (c.toNat : Int)] W fun e w' => e = .returned (.bool (p c)) ∧ W = w')
    (s : ByteArray) (hs : s.size ≤ maxLen) (w : World) :
    Calls Tryz.prog 103 #[.string s, .func (.func f) #[] #[]] w fun e w' => e = .returned (.bool (s.data.toList.all p)) ∧ w = w' := by
  unfold maxLen at hs
  obtain ⟨r, hr⟩ : ∃ r, r = s.data.toList.all p := ⟨_, rfl⟩
  rw [← hr]
  have HR := hide hr
  have HP := hide hp
  clear hr hp
  go_enter Tryz.func103, Tryz.ntmps103
  go_wp2
  go_loop [5] (fun i => ∃ k : Nat, k ≤ s.size ∧ i = .int .i64 k ∧ Hid (r = (s.data.toList.drop k).all p)) (fun i => s.size - (intOf i).toNat)
  case atStart => exact ⟨0, Nat.zero_le _, rfl, HR⟩
  case round =>
    obtain ⟨k, hk, rfl, H⟩ := hrel
    by_cases hlt : k < s.size
    · have H2 := hide (drop_string s k hlt)
      by_cases hc : p s[k] = true
      · have H3 := hide hc
        clear hc
        go_wp2_with fail
        refine (HP.out _ _).mono ?_
        rintro e w' ⟨rfl, rfl⟩
        rw [H3.out]
        go_wp2_with fail
        go_round
        case rel => exact ⟨k + 1, by omega, by go_num, hide (by rw [H.out, H2.out]; simp [H3.out])⟩
        case measure => simp [intOf]; omega
      · have H3 := hide (show p s[k] = false by simpa using hc)
        clear hc
        go_wp2_with fail
        refine (HP.out _ _).mono ?_
        rintro e w' ⟨rfl, rfl⟩
        rw [H3.out]
        go_wp2_with fail
        go_ret
        exact ⟨ret_bool (by rw [H.out, H2.out]; simp [H3.out]), rfl⟩
    · have H2 := hide (drop_string_end s k (by omega))
      go_wp2_with fail
      go_ret
      exact ⟨ret_bool (by rw [H.out, H2.out]; rfl), rfl⟩

set_option maxHeartbeats 400000 in
theorem plain_any (c : UInt8) (w : World) :
    Calls Tryz.prog 78 #[.int .u8 (c.toNat : Int)] w fun e w' => e = .returned (.bool (isPlain c)) ∧ w = w' := by
  have hi := indexByte_ge0 plainSet c
  unfold plainSet at hi
  have H := hide hi
  clear hi
  have hb := byte_lt c
  by_cases hl : alnum c = true
  · have H2 := hide hl
    go_enter Tryz.func78, Tryz.ntmps78
    go_wp2_with fail
    refine (letter_any c _).mono ?_
    rintro e w' ⟨rfl, rfl⟩
    go_wp2_with fail
    go_ret
    exact ⟨ret_bool (by simp [isPlain, H2.out]), rfl⟩
  · have H2 := hide hl
    go_enter Tryz.func78, Tryz.ntmps78
    go_wp2_with fail
    refine (letter_any c _).mono ?_
    rintro e w' ⟨rfl, rfl⟩
    go_wp2_with fail
    refine (Tryz.strings_IndexByte _ _ _).mono ?_
    rintro e w' ⟨rfl, rfl⟩
    go_wp2_with fail
    go_ret
    refine ⟨ret_bool ?_, rfl⟩
    unfold isPlain plainSet
    rw [← H.out]
    simp [H2.out]

set_option maxHeartbeats 400000 in
theorem rplain_any (c : UInt8) (w : World) :
    Calls Tryz.prog 87 #[.int .u8 (c.toNat : Int)] w fun e w' => e = .returned (.bool (isPlain c)) ∧ w = w' := by
  have hb := byte_lt c
  by_cases hl : alnum c = true
  · have H2 := hide hl
    go_enter Tryz.func87, Tryz.ntmps87
    go_wp2_with fail
    refine (Alnum_any c _).mono ?_
    rintro e w' ⟨rfl, rfl⟩
    go_wp2_with fail
    go_ret
    exact ⟨ret_bool (by simp [isPlain, H2.out]), rfl⟩
  · have H2 := hide hl
    go_enter Tryz.func87, Tryz.ntmps87
    go_wp2_with fail
    refine (Alnum_any c _).mono ?_
    rintro e w' ⟨rfl, rfl⟩
    go_wp2_with fail
    refine (Among_any c _ (by decide) _).mono ?_
    rintro e w' ⟨rfl, rfl⟩
    go_wp2_with fail
    go_ret
    refine ⟨ret_bool ?_, rfl⟩
    unfold isPlain plainSet
    simp [H2.out]

def low (c : UInt8) : UInt8 := if 65 ≤ (c.toNat : Int) ∧ (c.toNat : Int) ≤ 90 then c + 32 else c
theorem low_toNat (c : UInt8) (h : 65 ≤ (c.toNat : Int) ∧ (c.toNat : Int) ≤ 90) : ((low c).toNat : Int) = (c.toNat : Int) + 32 := by
  unfold low
  rw [if_pos h, UInt8.toNat_add]
  have : (32 : UInt8).toNat = 32 := rfl
  omega
theorem low_same (c : UInt8) (h : ¬ (65 ≤ (c.toNat : Int) ∧ (c.toNat : Int) ≤ 90)) : low c = c := by
  unfold low
  rw [if_neg h]

/-- after k rounds of Lower -/
def lowTo (l : List UInt8) (k : Nat) : List UInt8 := (l.take k).map low ++ l.drop k
theorem lowTo_len (l : List UInt8) (k : Nat) : (lowTo l k).length = l.length := by simp [lowTo]; omega
theorem lowTo_at (l : List UInt8) (k : Nat) (h : k < l.length) : (lowTo l k)[k]'(by rw [lowTo_len]; exact h) = l[k] := by
  unfold lowTo
  rw [List.getElem_append_right (by simp; omega)]
  simp [Nat.min_eq_left (Nat.le_of_lt h)]
theorem lowTo_set (l : List UInt8) (k : Nat) (h : k < l.length) : (lowTo l k).set k (low l[k]) = lowTo l (k + 1) := by
  unfold lowTo
  rw [List.set_append_right _ _ (by simp; omega)]
  simp only [List.length_map, List.length_take, Nat.min_eq_left (Nat.le_of_lt h), Nat.sub_self]
  rw [List.drop_eq_getElem_cons h, List.set_cons_zero, List.take_succ_eq_append_getElem h, List.map_append, List.append_assoc]
  rfl
theorem lowTo_skip (l : List UInt8) (k : Nat) (h : k < l.length) (hl : low l[k] = l[k]) : lowTo l k = lowTo l (k + 1) := by
  rw [← lowTo_set l k h, hl, ← lowTo_at l k h, List.set_getElem_self]

set_option maxHeartbeats 1000000 in
theorem Lower_any (s : ByteArray) (hs : s.size ≤ 1000000) (w : World) :
    Calls Tryz.prog 59 #[.string s] w fun e w' => e = .returned (.string ⟨(s.data.toList.map low).toArray⟩) ∧ Below w.heap.size w w' := by
  have hsz := size_string s
  generalize hl : s.data.toList = l at hsz
  have HL := hide hl
  have hsl : l.length ≤ 1000000 := by omega
  have hm : l.length ≤ maxLen := by unfold maxLen; omega
  clear hsz hl
  go_enter Tryz.func59, Tryz.ntmps59
  go_wp2_with (with_reducible refine wpList_str_bts _ rfl (.tmp 5) 9 59 5 rfl Tryz.underlying9 Tryz.underlying59 Tryz.underlying5 s rfl l HL.out hm ?_; intro g c w1 hg1 hg2 hb1 hby hc1 hc2)
  go_loopw [9] (fun i wr => ∃ k : Nat, k ≤ l.length ∧ i = .int .i64 k ∧ BytesAt wr 5 g (lowTo l k) ∧ Below w.heap.size w wr) (fun i _ => l.length - (intOf i).toNat)
  case atStart => exact ⟨0, Nat.zero_le _, rfl, by simpa [lowTo] using hby, hb1⟩
  case round =>
    obtain ⟨k, hk, rfl, hby, hb⟩ := hrel
    by_cases hlt : k < l.length
    · have hlt' : k < (lowTo l k).length := by rw [lowTo_len]; exact hlt
      have hcell := hby.cell hlt'
      rw [lowTo_at l k hlt] at hcell
      have hfree := hby.free hlt'
      have hbb := byte_lt l[k]
      obtain ⟨b, hbk⟩ : ∃ b, b = l[k] := ⟨_, rfl⟩
      rw [← hbk] at hcell hbb
      have HB := hide hbk
      clear hbk
      by_cases hup : 65 ≤ (b.toNat : Int) ∧ (b.toNat : Int) ≤ 90
      · have hlow := low_toNat b hup
        have hset := hby.set_ hlt' (low b)
        rw [hlow] at hset
        have HSET := hide (show BytesAt _ _ g (lowTo l (k + 1)) by rw [HB.out, lowTo_set l k hlt, ← HB.out] at hset; exact hset)
        have HBB := hide (Below.setCell hb (p := ⟨g, k, none⟩) hg1 (.int .u8 ((b.toNat : Int) + 32)))
        have HX := hide hlow
        obtain ⟨hu1, hu2⟩ := hup
        clear hset hlow
        go_wp2
        go_roundw
        case rel => exact ⟨k + 1, by omega, by go_num, HSET.out, HBB.out⟩
        case measure => simp [intOf]; omega
      · have HS2 := hide (lowTo_skip l k hlt (by rw [← HB.out]; exact low_same b hup))
        have hb2 : (b.toNat : Int) < 65 ∨ 90 < (b.toNat : Int) := by omega
        clear hup
        rcases hb2 with hb2 | hb2
        all_goals
          go_wp2
          go_roundw
          case rel => exact ⟨k + 1, by omega, by go_num, HS2.out ▸ hby, hb⟩
          case measure => simp [intOf]; omega
    · have hkl : k = l.length := by omega
      subst hkl
      have hfin := hby.sl (c := c) (by rw [lowTo_len]; omega) hc2
      rw [lowTo_len] at hfin
      have hconv := run_bts_str (P := Tryz.prog) wr 59 9 5 Tryz.underlying59 Tryz.underlying5 Tryz.underlying9 _ _ _ hfin
      clear hfin
      go_wp2
      go_ret
      refine ⟨ret_str (by simp [lowTo]), hb⟩
end Go.Proofs.YtbafpgdmnkkclaaGreatDoor
