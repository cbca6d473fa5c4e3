/- General names as text: what Parse says, by the first colon (plain). -/
import Derived.Test.YtmgnihmjjijdoaaGreatDoorGtA
namespace Go.Proofs.YtmgnihmjjijdoaaGreatDoor
open Go.RowKit
theorem pre_cut : ∀ (a w b : List UInt8), (∀ c ∈ a, c ≠ 58) → (∀ c ∈ w, c ≠ 58) → Lib.hasPrefix (a ++ 58 :: b) (w ++ [58]) = decide (a = w)
  | [], [], b, _, _ => by simp [Lib.hasPrefix, List.isPrefixOf]
  | [], x :: w, b, _, hw => by
    have hx := hw x (by simp)
    have h : (x == (58 : UInt8)) = false := by simpa using hx
    simp [Lib.hasPrefix, List.isPrefixOf, h]
  | y :: a, [], b, ha, _ => by
    have hy := ha y (by simp)
    have h : ((58 : UInt8) == y) = false := by simpa using fun e : (58 : UInt8) = y => hy e.symm
    simp [Lib.hasPrefix, List.isPrefixOf, h]
  | y :: a, x :: w, b, ha, hw => by
    have ih := pre_cut a w b (fun c hc => ha c (by simp [hc])) (fun c hc => hw c (by simp [hc]))
    unfold Lib.hasPrefix at *
    rw [List.cons_append, List.cons_append, List.isPrefixOf, ih]
    by_cases h : x = y
    · subst h; simp
    · have h2 : (x == y) = false := by simpa using h
      have h3 : ¬ y = x := fun e => h e.symm
      simp [h2, h3]
theorem pre_none : ∀ (s w : List UInt8), (∀ c ∈ s, c ≠ 58) → Lib.hasPrefix s (w ++ [58]) = false
  | [], [], _ => rfl
  | [], x :: w, _ => rfl
  | y :: s, [], h => by
    have hy := h y (by simp)
    have h2 : ((58 : UInt8) == y) = false := by simpa using fun e : (58 : UInt8) = y => hy e.symm
    simp [Lib.hasPrefix, List.isPrefixOf, h2]
  | y :: s, x :: w, h => by
    have ih := pre_none s w (fun c hc => h c (by simp [hc]))
    unfold Lib.hasPrefix at *
    rw [List.cons_append, List.isPrefixOf, ih, Bool.and_false]
def hMail : List UInt8 := [109, 97, 105, 108]
def hDns : List UInt8 := [100, 110, 115]
def hDir : List UInt8 := [100, 105, 114]
def hIp : List UInt8 := [105, 112]
theorem parse_none {s : List UInt8} (h : ∀ c ∈ s, c ≠ 58) : parseG s = (32, zeroG) := by
 have h1 := pre_none s hMail h
 have h2 := pre_none s hDns h
 have h3 := pre_none s hDir h
 have h4 := pre_none s hIp h
 unfold parseG
 rw [show wMail = hMail ++ [58] from rfl, show wDns = hDns ++ [58] from rfl, show wDir = hDir ++ [58] from rfl, show wIp = hIp ++ [58] from rfl, h1, h2, h3, h4]
 rfl
def cutG (a b : List UInt8) : Int × Gen := if a = hMail then finT 1 (unesc b) else if a = hDns then finT 2 (unesc b) else if a = hIp then finT 7 (unhexL b) else if a = hDir then finD (parseP b) else (32, zeroG)
theorem parse_cut {a b : List UInt8} (ha : ∀ c ∈ a, c ≠ 58) : parseG (a ++ 58 :: b) = cutG a b := by
 have h1 := pre_cut a hMail b ha (by decide)
 have h2 := pre_cut a hDns b ha (by decide)
 have h3 := pre_cut a hDir b ha (by decide)
 have h4 := pre_cut a hIp b ha (by decide)
 unfold parseG cutG
 rw [show wMail = hMail ++ [58] from rfl, show wDns = hDns ++ [58] from rfl, show wDir = hDir ++ [58] from rfl, show wIp = hIp ++ [58] from rfl, h1, h2, h3, h4]
 by_cases e1 : a = hMail
 ·subst e1; rfl
 ·rw [if_neg e1, decide_eq_false e1]
  by_cases e2 : a = hDns
  ·subst e2; rfl
  ·rw [if_neg e2, decide_eq_false e2]
   by_cases e3 : a = hDir
   ·subst e3; rfl
   ·rw [if_neg e3, decide_eq_false e3]
    by_cases e4 : a = hIp
    ·subst e4; rfl
    ·rw [if_neg e4, decide_eq_false e4]
     rfl
end Go.Proofs.YtmgnihmjjijdoaaGreatDoor
