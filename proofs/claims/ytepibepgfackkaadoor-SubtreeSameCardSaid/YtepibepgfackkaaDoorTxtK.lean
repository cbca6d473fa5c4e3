/- The functions of package text and its reference, eleventh part: Valid and its reference. -/
import Derived.Test.YtepibepgfackkaaDoorTxtJ
namespace Go.Proofs.YtepibepgfackkaaDoor
open Go.RowKit

def validT (kind : Int) (l : List UInt8) : Bool :=
  if kind = 12 then utfL (l.length + 1) l else if kind = 19 then l.all isPrint else if kind = 22 then l.all isIA5 else false
def rvalidT (kind : Int) (l : List UInt8) : Bool :=
  if kind = 12 then utf8L (l.length + 1) l else if kind = 19 then l.all isPrint else if kind = 22 then l.all isIA5 else false

theorem all_print (s : ByteArray) (hs : s.size ≤ maxLen) (w : World) :
    Calls Tryd.prog 74 #[.string s, .func (.func 75) #[] #[]] w fun e w' => e = .returned (.bool (s.data.toList.all isPrint)) ∧ w = w' :=
  all_any isPrint 75 (fun x W => by kernel_rfl) Print_any s hs w
theorem all_ia5 (s : ByteArray) (hs : s.size ≤ maxLen) (w : World) :
    Calls Tryd.prog 74 #[.string s, .func (.func 78) #[] #[]] w fun e w' => e = .returned (.bool (s.data.toList.all isIA5)) ∧ w = w' :=
  all_any isIA5 78 (fun x W => by kernel_rfl) IA5_any s hs w

set_option maxHeartbeats 1000000 in
theorem Valid_any (kind : Int) (s : ByteArray) (hs : s.size ≤ 1000000) (w : World) :
    Calls Tryd.prog 54 #[.int .i64 kind, .string s] w fun e w' => e = .returned (.bool (validT kind s.data.toList)) ∧ Below w.heap.size w w' := by
  have hm : s.size ≤ maxLen := by unfold maxLen; omega
  unfold validT
  rw [size_string]
  by_cases h1 : kind = 12
  · subst h1
    rw [if_pos rfl]
    go_enter Tryd.func54, Tryd.ntmps54
    go_wp2_with fail
    refine (utf_any s hs _).mono ?_
    rintro e w1 ⟨rfl, hb⟩
    go_wp2_with fail
    go_ret
    exact ⟨rfl, hb⟩
  · have h1' : (kind == 12) = false := by simpa using h1
    rw [if_neg h1]
    by_cases h2 : kind = 19
    · subst h2
      rw [if_pos rfl]
      clear h1
      go_enter Tryd.func54, Tryd.ntmps54
      go_wp2_with fail
      refine (all_print s hm _).mono ?_
      rintro e w1 ⟨rfl, rfl⟩
      generalize hb : s.data.toList.all isPrint = b
      have HB := hide hb
      clear hb
      go_wp2_with fail
      go_ret
      exact ⟨ret_bool HB.out.symm, Below.refl _ _⟩
    · have h2' : (kind == 19) = false := by simpa using h2
      rw [if_neg h2]
      by_cases h3 : kind = 22
      · subst h3
        rw [if_pos rfl]
        clear h1 h2
        go_enter Tryd.func54, Tryd.ntmps54
        go_wp2_with fail
        refine (all_ia5 s hm _).mono ?_
        rintro e w1 ⟨rfl, rfl⟩
        generalize hb : s.data.toList.all isIA5 = b
        have HB := hide hb
        clear hb
        go_wp2_with fail
        go_ret
        exact ⟨ret_bool HB.out.symm, Below.refl _ _⟩
      · have h3' : (kind == 22) = false := by simpa using h3
        rw [if_neg h3]
        clear h1 h2 h3
        go_enter Tryd.func54, Tryd.ntmps54
        go_wp2_with fail
        go_ret
        exact ⟨rfl, Below.refl _ _⟩

set_option maxHeartbeats 4000000 in
theorem rValid_any (kind : Int) (s : ByteArray) (hs : s.size ≤ 1000000) (w : World) :
    Calls Tryd.prog 45 #[.int .i64 kind, .string s] w fun e w' => e = .returned (.bool (rvalidT kind s.data.toList)) ∧ w = w' := by
  have hm : s.size ≤ maxLen := by unfold maxLen; omega
  unfold rvalidT
  rw [size_string]
  by_cases h1 : kind = 12
  · subst h1
    rw [if_pos rfl]
    go_enter Tryd.func45, Tryd.ntmps45
    go_wp2_with fail
    refine (utf8_any s hs _).mono ?_
    rintro e w1 ⟨rfl, rfl⟩
    go_wp2_with fail
    go_ret
    exact ⟨rfl, rfl⟩
  · have h1' : (kind == 12) = false := by simpa using h1
    rw [if_neg h1]
    by_cases h2 : kind = 19
    · subst h2
      rw [if_pos rfl]
      clear h1 h1'
      obtain ⟨r, hr⟩ : ∃ r, r = s.data.toList.all isPrint := ⟨_, rfl⟩
      rw [← hr]
      have HR := hide hr
      clear hr
      go_enter Tryd.func45, Tryd.ntmps45
      go_wp2_with fail
      go_loop [5] (fun i => ∃ k : Nat, k ≤ s.size ∧ i = .int .i64 k ∧ Hid (r = (s.data.toList.drop k).all isPrint)) (fun i => s.size - (intOf i).toNat)
      case atStart => exact ⟨0, Nat.zero_le _, rfl, HR⟩
      case round =>
        obtain ⟨k, hk, rfl, H⟩ := hrel
        by_cases hlt : k < s.size
        · have HD := drop_string s k hlt
          obtain ⟨c, hc⟩ : ∃ c, s[k] = c := ⟨_, rfl⟩
          rw [hc] at HD
          have HX := hide (show r = (isPrint c && (s.data.toList.drop (k + 1)).all isPrint) by rw [H.out, HD, List.all_cons])
          clear HD
          obtain ⟨p, hp⟩ : ∃ p, alnum c = p := ⟨_, rfl⟩
          have HP := hide hp
          go_wp2_with fail
          refine (Alnum_any c _).mono ?_
          rintro e w1 ⟨rfl, rfl⟩
          rw [hp]
          clear hp
          cases p
          · obtain ⟨q, hq⟩ : ∃ q, printSet.contains c = q := ⟨_, rfl⟩
            have HQ := hide hq
            unfold printSet at hq
            go_wp2_with fail
            refine (Among_any c _ (by decide) _).mono ?_
            rintro e w1 ⟨rfl, rfl⟩
            rw [hq]
            clear hq
            cases q
            · go_wp2_with fail
              go_ret
              exact ⟨ret_bool (by rw [HX.out, isPrint, HP.out, HQ.out]; rfl), rfl⟩
            · go_wp2_with fail
              go_round
              case rel => exact ⟨k + 1, by omega, by go_num, hide (by rw [HX.out, isPrint, HP.out, HQ.out]; rfl)⟩
              case measure => simp [intOf]; omega
          · go_wp2_with fail
            go_round
            case rel => exact ⟨k + 1, by omega, by go_num, hide (by rw [HX.out, isPrint, HP.out]; rfl)⟩
            case measure => simp [intOf]; omega
        · have HE := hide (drop_string_end s k (by omega))
          go_wp2_with fail
          go_ret
          exact ⟨ret_bool (by rw [H.out, HE.out]; rfl), rfl⟩
    · have h2' : (kind == 19) = false := by simpa using h2
      rw [if_neg h2]
      by_cases h3 : kind = 22
      · subst h3
        rw [if_pos rfl]
        clear h1 h2 h1' h2'
        obtain ⟨r, hr⟩ : ∃ r, r = s.data.toList.all isIA5 := ⟨_, rfl⟩
        rw [← hr]
        have HR := hide hr
        clear hr
        go_enter Tryd.func45, Tryd.ntmps45
        go_wp2_with fail
        go_loop [5] (fun i => ∃ k : Nat, k ≤ s.size ∧ i = .int .i64 k ∧ Hid (r = (s.data.toList.drop k).all isIA5)) (fun i => s.size - (intOf i).toNat)
        case atStart => exact ⟨0, Nat.zero_le _, rfl, HR⟩
        case round =>
          obtain ⟨k, hk, rfl, H⟩ := hrel
          by_cases hlt : k < s.size
          · have HD := drop_string s k hlt
            obtain ⟨c, hc⟩ : ∃ c, s[k] = c := ⟨_, rfl⟩
            rw [hc] at HD
            have hcb := byte_lt c
            have HX := hide (show r = (isIA5 c && (s.data.toList.drop (k + 1)).all isIA5) by rw [H.out, HD, List.all_cons])
            clear HD
            by_cases h4 : (c.toNat : Int) < 32
            · go_wp2_with fail
              go_ret
              exact ⟨ret_bool (by rw [HX.out]; simp [isIA5]; omega), rfl⟩
            · by_cases h5 : 126 < (c.toNat : Int)
              · go_wp2_with fail
                go_ret
                exact ⟨ret_bool (by rw [HX.out]; simp [isIA5]; omega), rfl⟩
              · go_wp2_with fail
                go_round
                case rel => exact ⟨k + 1, by omega, by go_num, hide (by rw [HX.out]; simp [isIA5]; omega)⟩
                case measure => simp [intOf]; omega
          · have HE := hide (drop_string_end s k (by omega))
            go_wp2_with fail
            go_ret
            exact ⟨ret_bool (by rw [H.out, HE.out]; rfl), rfl⟩
      · have h3' : (kind == 22) = false := by simpa using h3
        rw [if_neg h3]
        clear h1 h2 h3
        go_enter Tryd.func45, Tryd.ntmps45
        go_wp2_with fail
        go_ret
        exact ⟨rfl, rfl⟩
end Go.Proofs.YtepibepgfackkaaDoor
