/- Plain laws: decimal digits and dotted texts; the arcs of a text determine it. -/
import Derived.Test.YtahamclodagihaaGreatDoorKGSplit
import Derived.Test.YtahamclodagihaaGreatDoorKGOidD
import Derived.Deep.LoopGhost
import Derived.Test.YtahamclodagihaaGreatDoorKGTlvP
namespace Go.Proofs.YtahamclodagihaaGreatDoor
open Go.RowKit
def valD (n : Nat) (l : List UInt8) : Nat := l.foldl (fun n (c : UInt8) => 10 * n + (c.toNat - 48)) n
theorem valD_nil (n : Nat) : valD n [] = n := rfl
theorem valD_cons (n : Nat) (c : UInt8) (r : List UInt8) : valD n (c :: r) = valD (10 * n + (c.toNat - 48)) r := by unfold valD; rw [List.foldl_cons]
theorem valD_snoc (l : List UInt8) (n : Nat) (c : UInt8) : valD n (l ++ [c]) = 10 * valD n l + (c.toNat - 48) := by unfold valD; rw [List.foldl_append, List.foldl_cons, List.foldl_nil]
theorem arcK_val : ∀ (l : List UInt8) (n : Nat), arcK n l = if l.all isDig then (if 2147483647 < valD n l then none else some (valD n l)) else none
  | [], n => by rw [arcK, valD_nil]; rfl
  | c :: r, n => by
    rw [arcK, List.all_cons, valD_cons]
    cases hc : isDig c
    · simp
    · rw [if_pos rfl, arcK_val r]; simp
theorem isDig_of (n : Nat) (h : n < 10) : isDig (UInt8.ofNat (48 + n)) = true := by
 have := ofNat_byte (48 + n) (by omega)
 unfold isDig
 rw [this]
 simp; omega
theorem toNat_dig (n : Nat) (h : n < 10) : (UInt8.ofNat (48 + n)).toNat - 48 = n := by
 have := ofNat_byte (48 + n) (by omega)
 omega
theorem decL_all : ∀ n : Nat, (decL n).all isDig = true := by
  intro n
  induction n using Nat.strongRecOn with
  | ind n ih =>
    by_cases h : n < 10
    · rw [decL_small h, List.all_cons, isDig_of n h]; rfl
    · rw [decL_big h, List.all_append, ih (n / 10) (by omega), List.all_cons, isDig_of (n % 10) (by omega)]; rfl
theorem decL_val : ∀ n : Nat, valD 0 (decL n) = n := by
  intro n
  induction n using Nat.strongRecOn with
  | ind n ih =>
    by_cases h : n < 10
    · rw [decL_small h, valD_cons, valD_nil, toNat_dig n h]; omega
    · rw [decL_big h, valD_snoc, ih (n / 10) (by omega), toNat_dig (n % 10) (by omega)]; omega
theorem decL_inj {a b : Nat} (h : decL a = decL b) : a = b := by rw [← decL_val a, h, decL_val]
theorem valD_pos : ∀ (l : List UInt8), l.all isDig = true → l ≠ [] → l.getD 0 0 ≠ 48 → 1 ≤ valD 0 l
  | [], _, h, _ => absurd rfl h
  | c :: r, ha, _, hc => by
    have hc' : c ≠ 48 := hc
    rw [List.all_cons, Bool.and_eq_true] at ha
    have hd : 48 ≤ (c.toNat : Int) ∧ (c.toNat : Int) ≤ 57 := by simpa [isDig] using ha.1
    have h49 : 1 ≤ c.toNat - 48 := by
      rcases Nat.lt_or_ge 48 c.toNat with h | h
      · omega
      · exact absurd (UInt8.toNat_inj.1 (show c.toNat = (48 : UInt8).toNat by show c.toNat = 48; omega)) hc'
    rw [valD_cons]
    have mono : ∀ (l : List UInt8) (n : Nat), n ≤ valD n l := fun l => by
      induction l with
      | nil => intro n; exact Nat.le_refl _
      | cons x l ih => intro n; rw [valD_cons]; exact Nat.le_trans (by omega) (ih _)
    exact Nat.le_trans (by omega) (mono r _)
theorem snoc_of_ne {α : Type} {l : List α} (h : l ≠ []) : ∃ a x, l = a ++ [x] := ⟨l.dropLast, l.getLast h, (List.dropLast_concat_getLast h).symm⟩
theorem dec_val : ∀ (k : Nat) (l : List UInt8), l.length = k → l.all isDig = true → l ≠ [] → (l.getD 0 0 = 48 → l.length ≤ 1) → l = decL (valD 0 l)
  | k, l, hk, ha, hne, hz => by
    obtain ⟨a, c, rfl⟩ := snoc_of_ne hne
    rw [List.all_append, Bool.and_eq_true] at ha
    have hd : 48 ≤ (c.toNat : Int) ∧ (c.toNat : Int) ≤ 57 := by simpa [isDig] using ha.2
    have hcc : UInt8.ofNat (48 + (c.toNat - 48)) = c := by
      rw [show 48 + (c.toNat - 48) = c.toNat by omega]; simp
    rw [valD_snoc]
    cases a with
    | nil =>
      rw [decL_small (show 10 * valD 0 [] + (c.toNat - 48) < 10 by rw [valD_nil]; omega)]
      rw [valD_nil, show 48 + (10 * 0 + (c.toNat - 48)) = 48 + (c.toNat - 48) by omega, hcc]; rfl
    | cons x a =>
      have hx : (x :: a).getD 0 0 ≠ 48 := by
        intro e
        have := hz e
        simp at this
      have h1 := valD_pos (x :: a) ha.1 (by simp) hx
      have ih := dec_val (x :: a).length (x :: a) rfl ha.1 (by simp) (fun e => absurd e hx)
      rw [decL_big (by omega), show (10 * valD 0 (x :: a) + (c.toNat - 48)) / 10 = valD 0 (x :: a) by omega, ← ih, show (10 * valD 0 (x :: a) + (c.toNat - 48)) % 10 = c.toNat - 48 by omega, hcc]
termination_by k => k
decreasing_by simp at hk ⊢; omega
theorem arcG_dec {d : List UInt8} {n : Nat} (h : arcG d = some n) : d = decL n := by
 unfold arcG at h
 split at h
 ·cases h
 ·rename_i hc
  rw [arcK_val] at h
  split at h
  ·rename_i ha
   split at h
   ·cases h
   ·cases h
    refine dec_val _ d rfl ha (fun e => hc (.inl (by rw [e]; rfl))) (fun e => ?_)
    rcases Nat.lt_or_ge 1 d.length with h1 | h1
    ·exact absurd (.inr (.inr ⟨e, h1⟩)) hc
    ·exact h1
  ·cases h
def joinC (c : UInt8) : List (List UInt8) → List UInt8
 | [] => []
 | [p] => p
 | p :: q :: r => p ++ c :: joinC c (q :: r)
theorem joinC_cons (c : UInt8) (p : List UInt8) {r : List (List UInt8)} (h : r ≠ []) : joinC c (p :: r) = p ++ c :: joinC c r := by
 cases r with
 | nil => exact absurd rfl h
 | cons q r => rfl
theorem joinC_split (c : UInt8) : ∀ s, joinC c (splitC c s) = s
  | [] => rfl
  | x :: r => by
    have ih := joinC_split c r
    have hne := splitC_ne c r
    unfold splitC
    split
    · rename_i hx
      rw [joinC_cons c [] hne, ih, hx]; rfl
    · split
      · rename_i h; exact absurd h hne
      · rename_i p ps h
        rw [h] at ih
        cases ps with
        | nil => simp only [joinC] at ih ⊢; rw [ih]
        | cons q ps => simp only [joinC, List.cons_append] at ih ⊢; rw [ih]
def showL (l : List Nat) : List UInt8 := joinC 46 (l.map decL)
theorem arcsL_dec : ∀ (ps : List (List UInt8)) (l : List Nat), arcsL ps = some l → ps = l.map decL
  | [], l, h => by cases h; rfl
  | p :: ps, l, h => by
    obtain ⟨v, hv, h0⟩ := Option.bind_eq_some_iff.1 h
    obtain ⟨l', h1, rfl⟩ := Option.map_eq_some_iff.1 h0
    rw [List.map_cons, arcG_dec hv, ← arcsL_dec ps l' h1]
theorem arcsP_show {s : List UInt8} {l : List Nat} (h : arcsP s = some l) : s = showL l := by
 unfold arcsP at h
 split at h
 ·cases h
 ·obtain ⟨h1, _⟩ := rootL_some h
  rw [showL, ← arcsL_dec _ _ h1, joinC_split]
end Go.Proofs.YtahamclodagihaaGreatDoor
namespace Go.Proofs.YtahamclodagihaaGreatDoor
open Go.RowKit
end Go.Proofs.YtahamclodagihaaGreatDoor
namespace Go.Proofs.YtahamclodagihaaGreatDoor
open Go.RowKit
theorem decL_dig (u : Nat) : Lib.decDigits u = decL u := by
  induction u using Nat.strongRecOn with
  | ind u ih =>
    rw [Lib.decDigits, decL]
    split
    · rfl
    · rw [ih (u / 10) (by omega)]
end Go.Proofs.YtahamclodagihaaGreatDoor
namespace Go.Proofs.YtahamclodagihaaGreatDoor
open Go.RowKit
def idW (s : List UInt8) : List UInt8 := wrapW 6 ((encP s).getD [])
theorem encP_valid {s : List UInt8} (h : validB s = true) : ∃ c, encP s = some c ∧ c.length ≤ 1000 := by
  unfold validB at h
  cases ha : arcsP s with
  | none => rw [ha] at h; cases h
  | some l =>
    refine ⟨encL l, by rw [encP, ha]; rfl, ?_⟩
    obtain ⟨h1, h12, h3, h4⟩ := arcsP_some ha
    have hr := rootB_le h4
    have hf : ∀ r : List Nat, (∀ n ∈ r, n ≤ 2147483647) → (r.flatMap putL).length ≤ 6 * r.length := by
      intro r
      induction r with
      | nil => intro _; simp
      | cons n r ih =>
        intro h
        have := ih (fun m hm => h m (by simp [hm]))
        have := putL_len n (by have := h n (by simp); omega)
        rw [List.flatMap_cons, List.length_append, List.length_cons]
        omega
    have hb : l.getD 1 0 ≤ 2147483647 := by
      rw [List.getD, List.getElem?_eq_getElem (show 1 < l.length by omega)]
      exact h3 _ (List.getElem_mem _)
    have := hf (l.drop 2) (fun n hn => h3 n (List.mem_of_mem_drop hn))
    have := putL_len (40 * l.getD 0 0 + l.getD 1 0) (by omega)
    rw [encL, List.length_append]
    rw [List.length_drop] at *
    omega
end Go.Proofs.YtahamclodagihaaGreatDoor
