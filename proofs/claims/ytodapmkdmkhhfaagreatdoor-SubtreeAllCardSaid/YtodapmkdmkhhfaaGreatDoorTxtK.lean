/- The functions of package text and its reference, eleventh part: Valid and its reference. -/
import Derived.Test.YtodapmkdmkhhfaaGreatDoorTxtJ
namespace Go.Proofs.YtodapmkdmkhhfaaGreatDoor
open Go.RowKit

def validT (kind : Int) (l : List UInt8) : Bool :=
  if kind = 12 then utfL (l.length + 1) l else if kind = 19 then l.all isPrint else if kind = 22 then l.all isIA5 else false
def rvalidT (kind : Int) (l : List UInt8) : Bool :=
  if kind = 12 then utf8L (l.length + 1) l else if kind = 19 then l.all isPrint else if kind = 22 then l.all isIA5 else false

theorem all_print (s : ByteArray) (hs : s.size ≤ maxLen) (w : World) :
    Calls Tryz.prog 152 #[.string s, .func (.func 153) #[] #[]] w fun e w' => e = .returned (.bool (s.data.toList.all isPrint)) ∧ w = w' :=
  all_any isPrint 153 (fun x W => by kernel_rfl) Print_any s hs w
theorem all_ia5 (s : ByteArray) (hs : s.size ≤ maxLen) (w : World) :
    Calls Tryz.prog 152 #[.string s, .func (.func 155) #[] #[]] w fun e w' => e = .returned (.bool (s.data.toList.all isIA5)) ∧ w = w' :=
  all_any isIA5 155 (fun x W => by kernel_rfl) IA5_any s hs w

set_option maxHeartbeats 1000000 in
theorem Valid_any (kind : Int) (s : ByteArray) (hs : s.size ≤ 1000000) (w : World) :
    Calls Tryz.prog 137 #[.int .i64 kind, .string s] w fun e w' => e = .returned (.bool (validT kind s.data.toList)) ∧ Below w.heap.size w w' := by
  have hm : s.size ≤ maxLen := by unfold maxLen; omega
  unfold validT
  rw [size_string]
  by_cases h1 : kind = 12
  · subst h1
    rw [if_pos rfl]
    go_enter Tryz.func137, Tryz.ntmps137
    go_wp2_with fail
    refine (utf_any s hs _).mono ?_
    rintro e w1 ⟨rfl, hb⟩
    go_wp2_with fail
    go_ret
    exact ⟨rfl, hb⟩
  · have h1' : (kind == 12) = false := by simpa using h1
    rw [if_neg h1]
    by_cases h2 : kind = 19
    · subst h2
      rw [if_pos rfl]
      clear h1
      go_enter Tryz.func137, Tryz.ntmps137
      go_wp2_with fail
      refine (all_print s hm _).mono ?_
      rintro e w1 ⟨rfl, rfl⟩
      generalize hb : s.data.toList.all isPrint = b
      have HB := hide hb
      clear hb
      go_wp2_with fail
      go_ret
      exact ⟨ret_bool HB.out.symm, Below.refl _ _⟩
    · have h2' : (kind == 19) = false := by simpa using h2
      rw [if_neg h2]
      by_cases h3 : kind = 22
      · subst h3
        rw [if_pos rfl]
        clear h1 h2
        go_enter Tryz.func137, Tryz.ntmps137
        go_wp2_with fail
        refine (all_ia5 s hm _).mono ?_
        rintro e w1 ⟨rfl, rfl⟩
        generalize hb : s.data.toList.all isIA5 = b
        have HB := hide hb
        clear hb
        go_wp2_with fail
        go_ret
        exact ⟨ret_bool HB.out.symm, Below.refl _ _⟩
      · have h3' : (kind == 22) = false := by simpa using h3
        rw [if_neg h3]
        clear h1 h2 h3
        go_enter Tryz.func137, Tryz.ntmps137
        go_wp2_with fail
        go_ret
        exact ⟨rfl, Below.refl _ _⟩

end Go.Proofs.YtodapmkdmkhhfaaGreatDoor
