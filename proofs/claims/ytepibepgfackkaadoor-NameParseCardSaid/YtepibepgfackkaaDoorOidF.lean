/- The reference of package oid: arcs. -/
import Derived.Test.YtepibepgfackkaaDoorOidE
namespace Go.Proofs.YtepibepgfackkaaDoor
open Go.RowKit

def arcM (d : List UInt8) (n : Nat) : Option Nat := if n = 12 then none else arcG d
def refG : List UInt8 → Nat → List UInt8 → Option (List Nat)
  | d, n, [] => (arcM d n).map fun v => [v]
  | d, n, c :: r => if c = 46 then (arcM d n).bind fun v => (refG [] (n + 1) r).map (v :: ·) else if isDig c then refG (d ++ [c]) n r else none
def refEnd (l : List Nat) : Option (List Nat) := if l.length < 2 ∨ 2 < l.getD 0 0 ∨ (l.getD 0 0 < 2 ∧ 39 < l.getD 1 0) then none else some l
def refP (s : List UInt8) : Option (List Nat) := (refG [] 0 s).bind refEnd

/-! the reference's arcs are the program's -/
theorem arcK_no : ∀ (l : List UInt8) (n : Nat) (c : UInt8), c ∈ l → isDig c = false → arcK n l = none
  | [], _, _, h, _ => by cases h
  | x :: r, n, c, h, hc => by
    unfold arcK
    split
    · rcases List.mem_cons.1 h with rfl | h
      · rename_i hx; rw [hc] at hx; cases hx
      · exact arcK_no r _ c h hc
    · rfl
theorem arcG_no (l : List UInt8) (c : UInt8) (h : c ∈ l) (hc : isDig c = false) : arcG l = none := by
  unfold arcG
  split
  · rfl
  · exact arcK_no l 0 c h hc
def joinH (d : List UInt8) : List (List UInt8) → List (List UInt8)
  | [] => [d]
  | p :: ps => (d ++ p) :: ps
theorem joinH_nil {l : List (List UInt8)} (h : l ≠ []) : joinH [] l = l := by
  cases l with
  | nil => exact absurd rfl h
  | cons p ps => rfl
theorem refG_arcs : ∀ (r d : List UInt8) (n : Nat), n ≤ 12 → refG d n r = if n + (joinH d (splitC 46 r)).length ≤ 12 then arcsL (joinH d (splitC 46 r)) else none
  | [], d, n, hn => by
    rw [refG, arcM, splitC, joinH, List.append_nil]
    by_cases h : n = 12
    · rw [if_pos h, if_neg (by simp; omega)]; rfl
    · rw [if_neg h, if_pos (by simp; omega), arcsL, arcsL]
      cases arcG d <;> rfl
  | c :: r, d, n, hn => by
    rw [refG, splitC]
    by_cases hc : c = 46
    · rw [if_pos hc, if_pos hc, joinH, List.append_nil, arcM]
      by_cases h : n = 12
      · rw [if_pos h, if_neg (by simp; omega)]; rfl
      · have ih := refG_arcs r [] (n + 1) (by omega)
        rw [joinH_nil (splitC_ne 46 r)] at ih
        rw [if_neg h, ih, arcsL, List.length_cons]
        by_cases h2 : n + 1 + (splitC 46 r).length ≤ 12
        · rw [if_pos h2, if_pos (by omega)]
        · rw [if_neg h2, if_neg (by omega)]
          cases arcG d <;> rfl
    · rw [if_neg hc, if_neg hc]
      obtain ⟨p, ps, hp⟩ := List.exists_cons_of_ne_nil (splitC_ne 46 r)
      by_cases hd : isDig c = true
      · have ih := refG_arcs r (d ++ [c]) n hn
        rw [if_pos hd, ih, hp]
        simp only [joinH, List.append_assoc, List.singleton_append]
        rfl
      · rw [if_neg hd, hp]
        simp only [joinH]
        rw [arcsL, arcG_no (d ++ c :: p) c (by simp) (by simpa using hd)]
        simp
        exact (ite_self none).symm
theorem refP_arcsP (s : List UInt8) : refP s = arcsP s := by
  rw [refP, refG_arcs s [] 0 (by omega), joinH_nil (splitC_ne 46 s), Nat.zero_add, arcsP]
  by_cases h12 : (splitC 46 s).length ≤ 12
  · rw [if_pos h12]
    by_cases h2 : (splitC 46 s).length < 2
    · rw [if_pos (.inl h2)]
      cases hl : arcsL (splitC 46 s) with
      | none => rfl
      | some l => rw [Option.bind_some, refEnd, if_pos (.inl (by rw [arcsL_len _ _ hl]; exact h2))]
    · rw [if_neg (by omega), rootL]
      cases hl : arcsL (splitC 46 s) with
      | none => rfl
      | some l =>
        rw [Option.bind_some, Option.bind_some, refEnd]
        have := arcsL_len _ _ hl
        generalize l.getD 0 0 = A
        generalize l.getD 1 0 = B
        by_cases hr : rootB A B = true
        · rw [if_pos hr, if_neg]
          simp [rootB] at hr
          omega
        · rw [if_neg hr, if_pos]
          simp [rootB] at hr
          omega
  · rw [if_neg h12, if_pos (.inr (by omega))]; rfl

def RefRel (s : ByteArray) (r : Option (List Nat)) (k a : Nat) (out : List Nat) : Prop :=
  (k ≤ s.size ∧ a ≤ k ∧ (∀ c ∈ (s.extract a k).data.toList, isDig c = true) ∧ r = (refG (s.extract a k).data.toList out.length (s.data.toList.drop k)).map (out ++ ·)) ∨ (k = s.size + 1 ∧ r = some out)
theorem ext_nil (s : ByteArray) (a : Nat) : (s.extract a a).data.toList = [] := by
  rw [Lib.extract_data]; simp
theorem ext_snoc (s : ByteArray) (a k : Nat) (ha : a ≤ k) (hk : k < s.size) : (s.extract a (k + 1)).data.toList = (s.extract a k).data.toList ++ [s[k]] := by
  rw [Lib.extract_data, Lib.extract_data, show k + 1 - a = (k - a) + 1 by omega]
  rw [List.take_add_one]
  congr 1
  rw [List.getElem?_drop, show a + (k - a) = k by omega, List.getElem?_eq_getElem (by rw [size_string]; exact hk)]
  rfl
theorem RefRel.init (s : ByteArray) : RefRel s (refG [] 0 s.data.toList) 0 0 [] := by
  refine .inl ⟨Nat.zero_le _, Nat.le_refl _, by rw [ext_nil]; simp, ?_⟩
  rw [ext_nil]
  simp
theorem RefRel.digit {s : ByteArray} {r : Option (List Nat)} {k a : Nat} {out : List Nat} (h : RefRel s r k a out) (hk : k < s.size) (hc : s[k] ≠ 46) (hd : isDig s[k] = true) : RefRel s r (k + 1) a out := by
  rcases h with ⟨h1, h2, h3, h4⟩ | ⟨h1, _⟩
  · refine .inl ⟨hk, by omega, ?_, ?_⟩
    · rw [ext_snoc s a k h2 hk]
      intro c hc'
      rcases List.mem_append.1 hc' with h | h
      · exact h3 c h
      · simp at h; subst h; exact hd
    · rw [ext_snoc s a k h2 hk, h4, drop_string s k hk, refG, if_neg hc, if_pos hd]
  · omega
theorem RefRel.bad {s : ByteArray} {r : Option (List Nat)} {k a : Nat} {out : List Nat} (h : RefRel s r k a out) (hk : k < s.size) (hc : s[k] ≠ 46) (hd : isDig s[k] = false) : r = none := by
  rcases h with ⟨h1, h2, h3, h4⟩ | ⟨h1, _⟩
  · rw [h4, drop_string s k hk, refG, if_neg hc, if_neg (by rw [hd]; simp)]; rfl
  · omega
theorem RefRel.pieceN {s : ByteArray} {r : Option (List Nat)} {k a : Nat} {out : List Nat} (h : RefRel s r k a out) (hk : k = s.size ∨ ∃ h : k < s.size, s[k] = 46) (hm : arcM (s.extract a k).data.toList out.length = none) : r = none := by
  rcases h with ⟨h1, h2, h3, h4⟩ | ⟨h1, _⟩
  · rcases hk with rfl | ⟨hk, hc⟩
    · rw [h4, drop_string_end s s.size (Nat.le_refl _), refG, hm]; rfl
    · rw [h4, drop_string s k hk, refG, if_pos hc, hm]; rfl
  · rcases hk with hk | ⟨hk, _⟩ <;> omega
theorem RefRel.pieceS {s : ByteArray} {r : Option (List Nat)} {k a : Nat} {out : List Nat} (h : RefRel s r k a out) (hk : k = s.size ∨ ∃ h : k < s.size, s[k] = 46) {v : Nat} (hm : arcM (s.extract a k).data.toList out.length = some v) : RefRel s r (k + 1) (k + 1) (out ++ [v]) := by
  rcases h with ⟨h1, h2, h3, h4⟩ | ⟨h1, _⟩
  · rcases hk with rfl | ⟨hk, hc⟩
    · refine .inr ⟨rfl, ?_⟩
      rw [h4, drop_string_end s s.size (Nat.le_refl _), refG, hm]; rfl
    · refine .inl ⟨hk, Nat.le_refl _, by rw [ext_nil]; simp, ?_⟩
      rw [h4, drop_string s k hk, refG, if_pos hc, hm, ext_nil, Option.bind_some, Option.map_map, List.length_append]
      congr 1
      funext z
      simp
  · rcases hk with hk | ⟨hk, _⟩ <;> omega
end Go.Proofs.YtepibepgfackkaaDoor
