/- The functions of package text and its reference, tenth part: well-formed UTF-8, Valid. -/
import Derived.Test.YtodapmkdmkhhfaaGreatDoorTxtI
import Derived.Lib.TrimUEq
namespace Go.Proofs.YtodapmkdmkhhfaaGreatDoor
open Go.RowKit

def utfL : Nat → List UInt8 → Bool
  | 0, _ => true
  | _ + 1, [] => true
  | f + 1, c :: r =>
    if (Lib.decodeL (c :: r)).1 < 32 ∨ (Lib.decodeL (c :: r)).1 = 127 then false else
    if (Lib.decodeL (c :: r)).1 = 65533 ∧ Lib.hasPrefix (c :: r) [239, 191, 189] = false then false else
    utfL f ((c :: r).drop (Lib.decodeL (c :: r)).2)

set_option maxHeartbeats 2000000 in
theorem utf_any (s : ByteArray) (_hs : s.size ≤ 1000000) (w : World) :
    Calls Tryz.prog 151 #[.string s] w fun e w' => e = .returned (.bool (utfL (s.size + 1) s.data.toList)) ∧ Below w.heap.size w w' := by
  obtain ⟨r, hr⟩ : ∃ r, r = utfL (s.size + 1) s.data.toList := ⟨_, rfl⟩
  rw [← hr]
  have HR := hide hr
  clear hr
  have hbw : ∀ p, Below w.heap.size w (w.iter s p) := fun p => (Below.refl _ _).alloc (Nat.le_refl _) _
  go_enter Tryz.func151, Tryz.ntmps151
  go_wp2_with fail
  go_loopw [3, 4] (fun _ _ wr => ∃ (k n : Nat), s.size < k + n ∧ wr = w.iter s k ∧ Hid (r = utfL n (s.data.toList.drop k))) (fun _ _ wr => s.size - wr.iterPos w.heap.size)
  case atStart => exact ⟨0, s.size + 1, by omega, rfl, HR⟩
  case round =>
    obtain ⟨k, n, hn, rfl, H⟩ := hrel
    by_cases hlt : k < s.size
    · obtain ⟨n, rfl⟩ : ∃ m, n = m + 1 := ⟨n - 1, by omega⟩
      have hd := drop_string s k hlt
      have hdec := Lib.decodeL_drop s k
      have hnext := fun ty => run_next_any (P := Tryz.prog) w s k ty hlt
      have hpos := Lib.width_pos s k
      have hle := Lib.rune_le s k
      obtain ⟨x, hx⟩ : ∃ x, (Utf8.decode s k).1 = x := ⟨_, rfl⟩
      obtain ⟨m, hm⟩ : ∃ m, (Utf8.decode s k).2 = m := ⟨_, rfl⟩
      rw [hx] at hle
      rw [hm] at hpos
      have HX := hide (show r = if x < 32 ∨ x = 127 then false else if x = 65533 ∧ Lib.hasPrefix (s.data.toList.drop k) [239, 191, 189] = false then false else utfL n (s.data.toList.drop (k + m)) by
        rw [H.out]
        rw [hd] at hdec ⊢
        rw [utfL, hdec, hx, hm, ← hd, List.drop_drop])
      have HE := hide (Lib.extract_to_end s k)
      rw [hx, hm] at hnext
      clear hd hdec hx hm H
      by_cases h1 : x < 32
      · have HY := hide (HX.out.trans (if_pos (.inl h1)))
        go_wp2_with fail
        go_ret
        exact ⟨ret_bool HY.out.symm, hbw _⟩
      · by_cases h2 : x = 127
        · subst h2
          have HY := hide (HX.out.trans (if_pos (.inr rfl)))
          go_wp2_with fail
          go_ret
          exact ⟨ret_bool HY.out.symm, hbw _⟩
        · have h2' : ((x : Int) == 127) = false := by simp; omega
          have HY := hide (HX.out.trans (if_neg (by omega)))
          by_cases h3 : x = 65533
          · subst h3
            clear h1 h2 h2' HX
            obtain ⟨p, hp⟩ : ∃ p, Lib.hasPrefix (s.data.toList.drop k) [239, 191, 189] = p := ⟨_, rfl⟩
            have HP := hide hp
            clear hp
            go_wp2_with fail
            refine (Tryz.strings_HasPrefix _ _ _).mono ?_
            rintro e w' ⟨rfl, rfl⟩
            have hpp : Lib.hasPrefix (s.extract k s.size).data.toList (⟨#[239, 191, 189]⟩ : ByteArray).data.toList = p := by rw [HE.out, ← HP.out]
            rw [hpp]
            clear hpp
            cases p
            · go_wp2_with fail
              go_ret
              exact ⟨ret_bool (by rw [HY.out]; simp [HP.out]), hbw _⟩
            · go_wp2_with fail
              go_roundw
              case rel => exact ⟨k + m, n, by omega, rfl, hide (by rw [HY.out]; simp [HP.out])⟩
              case measure => simp; omega
          · have h3' : ((x : Int) == 65533) = false := by simp; omega
            have HZ := hide (HY.out.trans (if_neg (by omega)))
            clear HY HX h2 h3
            go_wp2_with fail
            go_roundw
            case rel => exact ⟨k + m, n, by omega, rfl, HZ⟩
            case measure => simp; omega
    · have hnext := fun ty => run_next_end (P := Tryz.prog) w s k ty hlt
      have HE := hide (drop_string_end s k (by omega))
      go_wp2_with fail
      go_ret
      exact ⟨ret_bool (by rw [H.out, HE.out]; cases n <;> rfl), hbw _⟩

def tailV : Nat → Nat → List UInt8 → Option Nat
  | 0, v, _ => some v
  | _ + 1, _, [] => none
  | n + 1, v, c :: r => if c.toNat / 64 = 2 then tailV n (64 * v + c.toNat % 64) r else none
def goodV (least : Nat) (v : Nat) : Bool := !(decide (v < least) || decide (v > 1114111) || (decide (55296 ≤ v) && decide (v < 57344)))
def utf8Step (n v least : Nat) (r : List UInt8) (k : List UInt8 → Bool) : Bool :=
  if r.length < n then false else match tailV n v r with
    | none => false
    | some x => goodV least x && k (r.drop n)
def utf8L : Nat → List UInt8 → Bool
  | 0, _ => true
  | _ + 1, [] => true
  | f + 1, c :: r =>
    if c.toNat < 32 ∨ c.toNat = 127 then false else
    if c.toNat < 128 then utf8L f r else
    if c.toNat < 192 then false else
    if c.toNat < 224 then utf8Step 1 (c.toNat % 32) 128 r (utf8L f) else
    if c.toNat < 240 then utf8Step 2 (c.toNat % 16) 2048 r (utf8L f) else
    if c.toNat < 248 then utf8Step 3 (c.toNat % 8) 65536 r (utf8L f) else false

theorem tail_bd {v j : Nat} (h : v < 32 * 64 ^ j) (hj : j ≤ 3) : v ≤ 8388608 := by
  have := Nat.pow_le_pow_right (n := 64) (by omega) hj
  omega
theorem and_mask (c : UInt8) : bits .and .i64 (c.toNat : Int) 31 = (c.toNat : Int) % 32 ∧ bits .and .i64 (c.toNat : Int) 15 = (c.toNat : Int) % 16 ∧ bits .and .i64 (c.toNat : Int) 7 = (c.toNat : Int) % 8 := by
  have h : ∀ n : Fin 256, bits .and .i64 ((n.1 : Nat) : Int) 31 = ((n.1 : Nat) : Int) % 32 ∧ bits .and .i64 ((n.1 : Nat) : Int) 15 = ((n.1 : Nat) : Int) % 16 ∧ bits .and .i64 ((n.1 : Nat) : Int) 7 = ((n.1 : Nat) : Int) % 8 := by decide +kernel
  exact h ⟨c.toNat, c.toNat_lt⟩
theorem tailV_step (n v : Nat) (c : UInt8) (r : List UInt8) (h : c.toNat / 64 = 2) : tailV (n + 1) v (c :: r) = tailV n (64 * v + c.toNat % 64) r := by rw [tailV, if_pos h]
theorem tailV_stop (n v : Nat) (c : UInt8) (r : List UInt8) (h : ¬ c.toNat / 64 = 2) : tailV (n + 1) v (c :: r) = none := by rw [tailV, if_neg h]


end Go.Proofs.YtodapmkdmkhhfaaGreatDoor
