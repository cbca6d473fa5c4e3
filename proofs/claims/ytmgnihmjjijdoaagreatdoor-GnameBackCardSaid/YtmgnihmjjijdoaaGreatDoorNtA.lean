/- Names as text, plain: what Format writes, and that Parse of it is a name that matches. -/
import Derived.Test.YtmgnihmjjijdoaaGreatDoorGNenP
import Derived.Test.YtmgnihmjjijdoaaGreatDoorGNamR
namespace Go.Proofs.YtmgnihmjjijdoaaGreatDoor
open Go.RowKit
def wordL : List Short → List UInt8 → List UInt8 → List UInt8
 | [], _, w => w
 | p :: r, id, w => wordL r id (if p.2 = id then p.1 else w)
def wordF (id : List UInt8) : List UInt8 := wordL shortTab id id
def fmtA (a : Attr) : List UInt8 := wordF a.1 ++ 61 :: a.2.2.flatMap escB
def fmtR (r : List Attr) : List UInt8 := Lib.join (r.map fmtA) [43]
def fmtB (n : Name) : List UInt8 := Lib.join (n.map fun r => fmtR (sortR r)) [44]
def fmtN (n : Name) : List UInt8 × Int := if chkN n = 0 then (fmtB n, 0) else ([], chkN n)
theorem encA_inj {a b : Attr} (ha : okA a) (hb : okA b) (h : encA a = encA b) : a = b := by
 have h1 := list_encA [a] (fun x hx => by simp at hx; subst hx; exact ha)
 have h2 := list_encA [b] (fun x hx => by simp at hx; subst hx; exact hb)
 simp only [List.map_cons, List.map_nil] at h1 h2
 rw [h, h2] at h1
 have h3 : eltA b = eltA a := by simpa using h1
 have h4 := decA_elt ha
 rw [← h3, decA_elt hb] at h4
 exact (Except.ok.inj h4).symm
theorem sortR_pair (r : List Attr) : (sortR r).Pairwise (fun a b => leL (encA a) (encA b) = true) :=
 List.pairwise_mergeSort (le := fun a b => leL (encA a) (encA b)) (fun _ _ _ h1 h2 => leL_trans _ _ _ h1 h2) (fun _ _ => leL_total _ _) r
theorem sortR_uniq {r s : List Attr} (hok : ∀ a ∈ r, okA a) (hp : s.Perm r) (hs : s.Pairwise (fun a b => leL (encA a) (encA b) = true)) : s = sortR r :=
 List.Perm.eq_of_pairwise (le := fun a b => leL (encA a) (encA b) = true) (fun a b ha hb h1 h2 => encA_inj (hok a (hp.mem_iff.1 ha)) (hok b ((sortR_perm r).mem_iff.1 hb)) (leL_anti h1 h2)) hs (sortR_pair r) (hp.trans (sortR_perm r).symm)
theorem split_join (c : UInt8) : ∀ (l : List (List UInt8)) (x : List UInt8), (∀ y ∈ x :: l, ∀ b ∈ y, b ≠ c) → splitC c (Lib.join (x :: l) [c]) = x :: l
  | [], x, h => by rw [Lib.join_one]; exact splitC_noneH c x (h x (by simp))
  | y :: l, x, h => by
    have ih := split_join c l y (fun z hz => h z (by simp at hz ⊢; exact .inr hz))
    rw [Lib.join_cons] at ih ⊢
    have e : Lib.joinTail [c] (y :: l) = c :: (y ++ Lib.joinTail [c] l) := by simp [Lib.joinTail]
    rw [e, splitC_hit c x _ (h x (by simp)), ih]
def noB (c : UInt8) (l : List UInt8) : Bool := l.all fun b => b != c
theorem noB_iff (c : UInt8) (l : List UInt8) : noB c l = true ↔ ∀ b ∈ l, b ≠ c := by simp [noB]
def fmtOk (r s : List Attr) : Bool :=
 noB 44 (fmtR s) && match parseRs (splitC 43 (fmtR s)) with
 | none => false
 | some q => sameR r q && decide (chkR q = 0)
theorem fmtOk_one : ∀ a ∈ attTab, fmtOk [a] [a] = true := by decide +kernel
theorem fmtOk_two : ∀ a ∈ attTab, ∀ b ∈ attTab, a.1 ≠ b.1 → fmtOk [a, b] [a, b] = true ∧ fmtOk [a, b] [b, a] = true := by decide +kernel
theorem sort_one (a : Attr) : sortR [a] = [a] := by simp [sortR]
theorem perm_two {a b : Attr} {s : List Attr} (h : s.Perm [a, b]) : s = [a, b] ∨ s = [b, a] := by
  have hl := h.length_eq
  match s, hl, h with
  | [x, y], _, h =>
    have hx : x ∈ [a, b] := h.mem_iff.1 (by simp)
    simp only [List.mem_cons, List.not_mem_nil, or_false] at hx
    rcases hx with rfl | rfl
    · have := (List.perm_cons x).1 h
      have := List.perm_singleton.1 this
      exact .inl (by rw [this])
    · have h2 : [x, y].Perm [x, a] := h.trans (List.Perm.swap x a [])
      have := List.perm_singleton.1 ((List.perm_cons x).1 h2)
      exact .inr (by rw [this])
theorem fmtOk_good {r : List Attr} (h : GoodR r) : fmtOk r (sortR r) = true := by
 rcases h with ⟨a, ha, rfl⟩ | ⟨a, ha, b, hb, rfl, hab⟩
 ·rw [sort_one]; exact fmtOk_one a ha
 ·obtain ⟨h1, h2⟩ := fmtOk_two a ha b hb hab
  rcases perm_two (sortR_perm [a, b]) with e | e
  ·rw [e]; exact h1
  ·rw [e]; exact h2
theorem fmt_parse_rs : ∀ (n : Name), (∀ r ∈ n, GoodR r) → (∀ y ∈ n.map (fun r => fmtR (sortR r)), ∀ b ∈ y, b ≠ 44) ∧ ∃ m, parseNs (n.map fun r => fmtR (sortR r)) = some m ∧ NSame n m ∧ chkRs m = 0
  | [], _ => ⟨fun y hy => (by cases hy), [], rfl, trivial, rfl⟩
  | r :: n, h => by
    obtain ⟨h1, m, h2, h3, h4⟩ := fmt_parse_rs n (fun x hx => h x (by simp [hx]))
    have hr := fmtOk_good (h r (by simp))
    unfold fmtOk at hr
    rw [Bool.and_eq_true] at hr
    obtain ⟨hr1, hr2⟩ := hr
    refine ⟨fun y hy => ?_, ?_⟩
    · rw [List.map_cons] at hy
      rcases List.mem_cons.1 hy with rfl | hy
      · exact (noB_iff _ _).1 hr1
      · exact h1 y hy
    · cases hq : parseRs (splitC 43 (fmtR (sortR r))) with
      | none => rw [hq] at hr2; cases hr2
      | some q =>
        rw [hq] at hr2
        simp only [Bool.and_eq_true, decide_eq_true_eq] at hr2
        refine ⟨q :: m, ?_, ⟨hr2.1, h3⟩, ?_⟩
        · rw [List.map_cons, parseNs, hq, h2]; rfl
        · rw [chkRs, if_pos hr2.2, h4]
theorem parse_fmt {n : Name} (h : GoodN n) : ∃ m, parseP (fmtB n) = (0, m) ∧ matchN n m = true ∧ chkN m = 0 := by
  obtain ⟨h1, m, h2, h3, h4⟩ := fmt_parse_rs n h.2
  have hc : chkN m = 0 := by
    have := h3.len
    have := h.1
    rw [chkN, if_neg (by omega), h4]
  refine ⟨m, ?_, (matchN_iff _ _).2 h3, hc⟩
  match n, h1, h2, h3 with
  | [], _, h2, _ =>
    cases h2
    rfl
  | r :: n, h1, h2, _ =>
    have hs := split_join 44 (n.map fun r => fmtR (sortR r)) (fmtR (sortR r)) h1
    have hne : fmtB (r :: n) ≠ [] := fun e => by
      rw [fmtB, List.map_cons] at e
      rw [e] at hs
      have h5 : ([] : List UInt8) = fmtR (sortR r) := by
        have := hs
        rw [splitC] at this
        exact (List.cons.inj this).1
      rw [List.map_cons, ← h5] at h2
      cases h2
    rw [parseP, if_neg hne]
    have e2 : splitC 44 (fmtB (r :: n)) = (r :: n).map fun r => fmtR (sortR r) := hs
    rw [e2, h2, parseF, if_pos hc]
end Go.Proofs.YtmgnihmjjijdoaaGreatDoor
