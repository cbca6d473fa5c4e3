/- Plain laws: decimal digits and dotted texts; the arcs of a text determine it. -/
import Derived.Test.YtbafpgdmnkkclaaDoorOidI
import Derived.Test.YtbafpgdmnkkclaaDoorOidH
namespace Go.Proofs.YtbafpgdmnkkclaaDoor
open Go.RowKit

/-! ### a number in decimal digits -/
def valD (n : Nat) (l : List UInt8) : Nat := l.foldl (fun n (c : UInt8) => 10 * n + (c.toNat - 48)) n
theorem valD_nil (n : Nat) : valD n [] = n := rfl
theorem valD_cons (n : Nat) (c : UInt8) (r : List UInt8) : valD n (c :: r) = valD (10 * n + (c.toNat - 48)) r := by unfold valD; rw [List.foldl_cons]
theorem valD_snoc (l : List UInt8) (n : Nat) (c : UInt8) : valD n (l ++ [c]) = 10 * valD n l + (c.toNat - 48) := by unfold valD; rw [List.foldl_append, List.foldl_cons, List.foldl_nil]
theorem arcK_val : ∀ (l : List UInt8) (n : Nat), arcK n l = if l.all isDig then (if 2147483647 < valD n l then none else some (valD n l)) else none
  | [], n => by rw [arcK, valD_nil]; rfl
  | c :: r, n => by
    rw [arcK, List.all_cons, valD_cons]
    cases hc : isDig c
    · simp
    · rw [if_pos rfl, arcK_val r]; simp
theorem isDig_of (n : Nat) (h : n < 10) : isDig (UInt8.ofNat (48 + n)) = true := by
  have := ofNat_byte (48 + n) (by omega)
  unfold isDig
  rw [this]
  simp; omega
theorem toNat_dig (n : Nat) (h : n < 10) : (UInt8.ofNat (48 + n)).toNat - 48 = n := by
  have := ofNat_byte (48 + n) (by omega)
  omega
theorem decL_all : ∀ n : Nat, (decL n).all isDig = true := by
  intro n
  induction n using Nat.strongRecOn with
  | ind n ih =>
    by_cases h : n < 10
    · rw [decL_small h, List.all_cons, isDig_of n h]; rfl
    · rw [decL_big h, List.all_append, ih (n / 10) (by omega), List.all_cons, isDig_of (n % 10) (by omega)]; rfl
theorem decL_ne (n : Nat) : decL n ≠ [] := by
  by_cases h : n < 10
  · rw [decL_small h]; simp
  · rw [decL_big h]; simp
theorem decL_val : ∀ n : Nat, valD 0 (decL n) = n := by
  intro n
  induction n using Nat.strongRecOn with
  | ind n ih =>
    by_cases h : n < 10
    · rw [decL_small h, valD_cons, valD_nil, toNat_dig n h]; omega
    · rw [decL_big h, valD_snoc, ih (n / 10) (by omega), toNat_dig (n % 10) (by omega)]; omega
theorem decL_head : ∀ n : Nat, 1 ≤ n → (decL n).getD 0 0 ≠ 48 := by
  intro n
  induction n using Nat.strongRecOn with
  | ind n ih =>
    intro h1
    by_cases h : n < 10
    · rw [decL_small h]
      intro e
      have e' : UInt8.ofNat (48 + n) = 48 := e
      have := ofNat_byte (48 + n) (by omega)
      rw [e'] at this
      have h48 : ((48 : UInt8).toNat : Int) = 48 := rfl
      omega
    · have := ih (n / 10) (by omega) (by omega)
      rw [decL_big h]
      obtain ⟨x, xs, hx⟩ := List.exists_cons_of_ne_nil (decL_ne (n / 10))
      rw [hx] at this ⊢
      exact this
theorem decL_inj {a b : Nat} (h : decL a = decL b) : a = b := by rw [← decL_val a, h, decL_val]
theorem valD_pos : ∀ (l : List UInt8), l.all isDig = true → l ≠ [] → l.getD 0 0 ≠ 48 → 1 ≤ valD 0 l
  | [], _, h, _ => absurd rfl h
  | c :: r, ha, _, hc => by
    have hc' : c ≠ 48 := hc
    rw [List.all_cons, Bool.and_eq_true] at ha
    have hd : 48 ≤ (c.toNat : Int) ∧ (c.toNat : Int) ≤ 57 := by simpa [isDig] using ha.1
    have h49 : 1 ≤ c.toNat - 48 := by
      rcases Nat.lt_or_ge 48 c.toNat with h | h
      · omega
      · exact absurd (UInt8.toNat_inj.1 (show c.toNat = (48 : UInt8).toNat by show c.toNat = 48; omega)) hc'
    rw [valD_cons]
    have mono : ∀ (l : List UInt8) (n : Nat), n ≤ valD n l := fun l => by
      induction l with
      | nil => intro n; exact Nat.le_refl _
      | cons x l ih => intro n; rw [valD_cons]; exact Nat.le_trans (by omega) (ih _)
    exact Nat.le_trans (by omega) (mono r _)
theorem snoc_of_ne {α : Type} {l : List α} (h : l ≠ []) : ∃ a x, l = a ++ [x] := ⟨l.dropLast, l.getLast h, (List.dropLast_concat_getLast h).symm⟩
/-- digits without a needless zero are those of their number -/
theorem dec_val : ∀ (k : Nat) (l : List UInt8), l.length = k → l.all isDig = true → l ≠ [] → (l.getD 0 0 = 48 → l.length ≤ 1) → l = decL (valD 0 l)
  | k, l, hk, ha, hne, hz => by
    obtain ⟨a, c, rfl⟩ := snoc_of_ne hne
    rw [List.all_append, Bool.and_eq_true] at ha
    have hd : 48 ≤ (c.toNat : Int) ∧ (c.toNat : Int) ≤ 57 := by simpa [isDig] using ha.2
    have hcc : UInt8.ofNat (48 + (c.toNat - 48)) = c := by
      rw [show 48 + (c.toNat - 48) = c.toNat by omega]; simp
    rw [valD_snoc]
    cases a with
    | nil =>
      rw [decL_small (show 10 * valD 0 [] + (c.toNat - 48) < 10 by rw [valD_nil]; omega)]
      rw [valD_nil, show 48 + (10 * 0 + (c.toNat - 48)) = 48 + (c.toNat - 48) by omega, hcc]; rfl
    | cons x a =>
      have hx : (x :: a).getD 0 0 ≠ 48 := by
        intro e
        have := hz e
        simp at this
      have h1 := valD_pos (x :: a) ha.1 (by simp) hx
      have ih := dec_val (x :: a).length (x :: a) rfl ha.1 (by simp) (fun e => absurd e hx)
      rw [decL_big (by omega), show (10 * valD 0 (x :: a) + (c.toNat - 48)) / 10 = valD 0 (x :: a) by omega, ← ih, show (10 * valD 0 (x :: a) + (c.toNat - 48)) % 10 = c.toNat - 48 by omega, hcc]
termination_by k => k
decreasing_by simp at hk ⊢; omega
theorem arcG_dec {d : List UInt8} {n : Nat} (h : arcG d = some n) : d = decL n := by
  unfold arcG at h
  split at h
  · cases h
  · rename_i hc
    rw [arcK_val] at h
    split at h
    · rename_i ha
      split at h
      · cases h
      · cases h
        refine dec_val _ d rfl ha (fun e => hc (.inl (by rw [e]; rfl))) (fun e => ?_)
        rcases Nat.lt_or_ge 1 d.length with h1 | h1
        · exact absurd (.inr (.inr ⟨e, h1⟩)) hc
        · exact h1
    · cases h
theorem arcG_decL {n : Nat} (h : n ≤ 2147483647) : arcG (decL n) = some n := by
  have hl := decL_len 9 n (by omega)
  have hne := decL_ne n
  unfold arcG
  rw [if_neg, arcK_val, if_pos (decL_all n), decL_val, if_neg (by omega)]
  rintro (h0 | h0 | ⟨h0, h1⟩)
  · exact hne (List.eq_nil_of_length_eq_zero h0)
  · omega
  · rcases Nat.eq_zero_or_pos n with rfl | hn
    · rw [decL_small (by omega)] at h1; simp at h1
    · exact decL_head n hn h0

/-! ### pieces between points -/
def joinC (c : UInt8) : List (List UInt8) → List UInt8
  | [] => []
  | [p] => p
  | p :: q :: r => p ++ c :: joinC c (q :: r)
theorem joinC_cons (c : UInt8) (p : List UInt8) {r : List (List UInt8)} (h : r ≠ []) : joinC c (p :: r) = p ++ c :: joinC c r := by
  cases r with
  | nil => exact absurd rfl h
  | cons q r => rfl
theorem joinC_app (c : UInt8) : ∀ (a : List (List UInt8)) (b : List (List UInt8)), a ≠ [] → b ≠ [] → joinC c (a ++ b) = joinC c a ++ c :: joinC c b
  | [], _, h, _ => absurd rfl h
  | [p], b, _, hb => by rw [List.singleton_append, joinC_cons c p hb]; rfl
  | p :: q :: r, b, _, hb => by
    rw [List.cons_append, joinC_cons c p (by simp), joinC_app c (q :: r) b (by simp) hb, joinC_cons c p (by simp)]
    simp
theorem joinC_split (c : UInt8) : ∀ s, joinC c (splitC c s) = s
  | [] => rfl
  | x :: r => by
    have ih := joinC_split c r
    have hne := splitC_ne c r
    unfold splitC
    split
    · rename_i hx
      rw [joinC_cons c [] hne, ih, hx]; rfl
    · split
      · rename_i h; exact absurd h hne
      · rename_i p ps h
        rw [h] at ih
        cases ps with
        | nil => simp only [joinC] at ih ⊢; rw [ih]
        | cons q ps => simp only [joinC, List.cons_append] at ih ⊢; rw [ih]
theorem splitC_none (c : UInt8) : ∀ p : List UInt8, c ∉ p → splitC c p = [p]
  | [], _ => rfl
  | x :: p, h => by
    have hx : x ≠ c := fun e => h (by simp [e])
    rw [splitC, if_neg hx, splitC_none c p (fun h' => h (by simp [h']))]
theorem splitC_app (c : UInt8) : ∀ (p s : List UInt8), splitC c (p ++ c :: s) = splitC c p ++ splitC c s
  | [], s => by
    show splitC c (c :: s) = [[]] ++ splitC c s
    rw [splitC]
    simp
  | x :: p, s => by
    have ih := splitC_app c p s
    rw [List.cons_append]
    by_cases hx : x = c
    · rw [splitC, if_pos hx, splitC, if_pos hx, ih]; rfl
    · obtain ⟨q, qs, hq⟩ := List.exists_cons_of_ne_nil (splitC_ne c p)
      rw [splitC, if_neg hx, splitC, if_neg hx, ih, hq]; rfl
theorem splitC_join (c : UInt8) : ∀ ps : List (List UInt8), ps ≠ [] → (∀ p ∈ ps, c ∉ p) → splitC c (joinC c ps) = ps
  | [], h, _ => absurd rfl h
  | [p], _, h => splitC_none c p (h p (by simp))
  | p :: q :: r, _, h => by
    rw [joinC_cons c p (by simp), splitC_app, splitC_none c p (h p (by simp)), splitC_join c (q :: r) (by simp) (fun x hx => h x (by simp [List.mem_cons.1 hx]))]
    rfl

/-! ### dotted texts -/
def showL (l : List Nat) : List UInt8 := joinC 46 (l.map decL)
theorem dot_not (n : Nat) : (46 : UInt8) ∉ decL n := by
  intro h
  have := List.all_eq_true.1 (decL_all n) 46 h
  exact absurd this (by decide)
theorem split_show {l : List Nat} (h : l ≠ []) : splitC 46 (showL l) = l.map decL :=
  splitC_join 46 _ (by simpa using h) (fun p hp => by obtain ⟨n, _, rfl⟩ := List.mem_map.1 hp; exact dot_not n)
theorem map_dec_inj : ∀ {a b : List Nat}, a.map decL = b.map decL → a = b
  | [], [], _ => rfl
  | [], _ :: _, h => by cases h
  | _ :: _, [], h => by cases h
  | x :: a, y :: b, h => by
    simp only [List.map_cons, List.cons.injEq] at h
    rw [decL_inj h.1, map_dec_inj h.2]
theorem arcsL_dec : ∀ (ps : List (List UInt8)) (l : List Nat), arcsL ps = some l → ps = l.map decL
  | [], l, h => by cases h; rfl
  | p :: ps, l, h => by
    obtain ⟨v, hv, h0⟩ := Option.bind_eq_some_iff.1 h
    obtain ⟨l', h1, rfl⟩ := Option.map_eq_some_iff.1 h0
    rw [List.map_cons, arcG_dec hv, ← arcsL_dec ps l' h1]
theorem arcsL_map : ∀ (l : List Nat), (∀ n ∈ l, n ≤ 2147483647) → arcsL (l.map decL) = some l
  | [], _ => rfl
  | n :: l, h => by
    rw [List.map_cons, arcsL, arcG_decL (h n (by simp)), Option.bind_some, arcsL_map l (fun m hm => h m (by simp [hm]))]; rfl
/-- what the arcs of an object identifier are -/
def ValidA (l : List Nat) : Prop := 2 ≤ l.length ∧ l.length ≤ 12 ∧ (∀ n ∈ l, n ≤ 2147483647) ∧ rootB (l.getD 0 0) (l.getD 1 0) = true
theorem arcsP_show {s : List UInt8} {l : List Nat} (h : arcsP s = some l) : s = showL l := by
  unfold arcsP at h
  split at h
  · cases h
  · obtain ⟨h1, _⟩ := rootL_some h
    rw [showL, ← arcsL_dec _ _ h1, joinC_split]
theorem arcsP_of {l : List Nat} (h : ValidA l) : arcsP (showL l) = some l := by
  obtain ⟨h1, h2, h3, h4⟩ := h
  have hne : l ≠ [] := fun e => by rw [e] at h1; simp at h1
  unfold arcsP
  rw [split_show hne, List.length_map, if_neg (by omega), arcsL_map l h3, rootL, Option.bind_some, if_pos h4]
theorem arcsP_iff {l : List Nat} (hne : l ≠ []) {m : List Nat} (h : arcsP (showL l) = some m) : m = l ∧ ValidA l := by
  have e := arcsP_show h
  have hv := arcsP_some h
  have hm : m ≠ [] := fun e => by rw [e] at hv; simp at hv
  have : l = m := by
    have h1 := split_show hne
    rw [e, split_show hm] at h1
    exact (map_dec_inj h1).symm
  subst this
  exact ⟨rfl, hv⟩
theorem arcsP_inj {s t : List UInt8} {l : List Nat} (h1 : arcsP s = some l) (h2 : arcsP t = some l) : s = t := by rw [arcsP_show h1, arcsP_show h2]

/-! ### Under -/
theorem prefL_iff : ∀ (y x : List Nat), prefL y x = true ↔ y <+: x
  | [], x => by simp [prefL]
  | b :: y, [] => by simp [prefL]
  | b :: y, a :: x => by
    rw [prefL]
    by_cases h : a = b
    · rw [if_pos h, prefL_iff y x, h, List.cons_prefix_cons]; simp
    · rw [if_neg h, List.cons_prefix_cons]
      simp only [Bool.false_eq_true, false_iff, not_and]
      intro e; exact absurd e.symm h
theorem hasPrefix_iff (s p : List UInt8) : Lib.hasPrefix s p = true ↔ p <+: s := by
  unfold Lib.hasPrefix
  first | exact List.isPrefixOf_iff_prefix | simp [List.prefix_iff_eq_take]
theorem show_prefix {l m : List Nat} (hl : l ≠ []) (hm : m ≠ []) : (showL l = showL m ∨ showL m ++ [46] <+: showL l) ↔ m <+: l := by
  constructor
  · rintro (h | ⟨t, h⟩)
    · have h1 := split_show hl
      rw [h, split_show hm] at h1
      rw [map_dec_inj h1]
      exact List.prefix_refl _
    · have h1 := split_show hl
      rw [← h, List.append_assoc, List.singleton_append, splitC_app, split_show hm] at h1
      have h2 : m.map decL = (l.map decL).take m.length := by rw [← h1, List.take_append_of_le_length (by rw [List.length_map]; exact Nat.le_refl _), List.take_of_length_le (by rw [List.length_map]; exact Nat.le_refl _)]
      rw [← List.map_take] at h2
      rw [map_dec_inj h2]
      exact List.take_prefix _ _
  · rintro ⟨r, rfl⟩
    by_cases hr : r = []
    · subst hr; exact .inl (by rw [List.append_nil])
    · refine .inr ⟨showL r, ?_⟩
      rw [showL, showL, showL, List.map_append, joinC_app 46 _ _ (by simpa using hm) (by simpa using hr)]
      simp
theorem underP_eq (s b : List UInt8) : underP s b = rUnderP s b := by
  unfold underP rUnderP validB
  cases hs : arcsP s with
  | none => rfl
  | some l =>
    cases hb : arcsP b with
    | none => rfl
    | some m =>
      obtain ⟨hl2, -⟩ := arcsP_some hs
      obtain ⟨hm2, -⟩ := arcsP_some hb
      have hl : l ≠ [] := fun e => by rw [e] at hl2; simp at hl2
      have hm : m ≠ [] := fun e => by rw [e] at hm2; simp at hm2
      rw [arcsP_show hs, arcsP_show hb, Bool.eq_iff_iff]
      simp only [Option.isSome_some, Bool.true_and, Bool.or_eq_true, decide_eq_true_eq, hasPrefix_iff, underO]
      rw [show_prefix hl hm]
      constructor
      · intro h
        rw [if_neg (by have := h.length_le; omega), prefL_iff]
        exact h
      · intro h
        split at h
        · cases h
        · exact (prefL_iff m l).1 h

/-! ### Less is a strict total order -/
theorem lessL_irr : ∀ x : List Nat, lessL x x = false
  | [] => rfl
  | a :: x => by rw [lessL, if_pos rfl]; exact lessL_irr x
theorem lessL_tri : ∀ x y : List Nat, x ≠ y → lessL x y = !lessL y x
  | [], [], h => absurd rfl h
  | [], _ :: _, _ => rfl
  | _ :: _, [], _ => rfl
  | a :: x, b :: y, h => by
    rw [lessL, lessL]
    by_cases hab : a = b
    · rw [if_pos hab, if_pos hab.symm]
      exact lessL_tri x y (fun e => h (by rw [hab, e]))
    · rw [if_neg hab, if_neg (fun e => hab e.symm), Bool.eq_iff_iff]
      simp; omega
theorem lessL_trans : ∀ x y z : List Nat, lessL x y = true → lessL y z = true → lessL x z = true
  | [], [], _, h, _ => by cases h
  | [], _ :: _, [], _, h => by cases h
  | [], _ :: _, _ :: _, _, _ => rfl
  | _ :: _, [], _, h, _ => by cases h
  | _ :: _, _ :: _, [], _, h => by cases h
  | a :: x, b :: y, c :: z, h1, h2 => by
    rw [lessL] at h1 h2 ⊢
    by_cases hab : a = b
    · subst hab
      rw [if_pos rfl] at h1
      by_cases hbc : a = c
      · rw [if_pos hbc] at h2 ⊢
        exact lessL_trans x y z h1 h2
      · rw [if_neg hbc] at h2 ⊢
        exact h2
    · rw [if_neg hab, decide_eq_true_eq] at h1
      by_cases hbc : b = c
      · subst hbc
        rw [if_neg (by omega), decide_eq_true_eq]
        exact h1
      · rw [if_neg hbc, decide_eq_true_eq] at h2
        rw [if_neg (by omega), decide_eq_true_eq]
        omega
theorem lessP_irr (s : List UInt8) : lessP s s = false := by
  unfold lessP
  cases arcsP s with
  | none => rfl
  | some x => exact lessL_irr x
theorem lessP_trans {a b c : List UInt8} (h1 : lessP a b = true) (h2 : lessP b c = true) : lessP a c = true := by
  unfold lessP at *
  cases ha : arcsP a with
  | none => rw [ha] at h1; cases h1
  | some x =>
    cases hb : arcsP b with
    | none => rw [ha, hb] at h1; cases h1
    | some y =>
      cases hc : arcsP c with
      | none => rw [hb, hc] at h2; cases h2
      | some z =>
        rw [ha, hb] at h1
        rw [hb, hc] at h2
        exact lessL_trans x y z h1 h2
theorem lessP_tri {a b : List UInt8} (ha : validB a = true) (hb : validB b = true) (h : a ≠ b) : lessP a b = !lessP b a := by
  unfold lessP validB at *
  cases hxa : arcsP a with
  | none => rw [hxa] at ha; cases ha
  | some x =>
    cases hxb : arcsP b with
    | none => rw [hxb] at hb; cases hb
    | some y => exact lessL_tri x y (fun e => h (arcsP_inj hxa (e ▸ hxb)))
end Go.Proofs.YtbafpgdmnkkclaaDoor
