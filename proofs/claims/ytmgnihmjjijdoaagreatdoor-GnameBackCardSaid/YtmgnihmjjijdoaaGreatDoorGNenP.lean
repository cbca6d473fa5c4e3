/- Names, plain: what Encode writes, what Decode reads, and that each inverts the other. -/
import Derived.Test.YtmgnihmjjijdoaaGreatDoorGTlvJ
import Derived.Test.YtmgnihmjjijdoaaGreatDoorGOidD
import Derived.Sort.Walk0
import Derived.BigRegion
import Derived.Test.YtmgnihmjjijdoaaGreatDoorGOidS
import Derived.Test.YtmgnihmjjijdoaaGreatDoorGNamR
namespace Go.Proofs.YtmgnihmjjijdoaaGreatDoor
open Go.RowKit
def leL (x y : List UInt8) : Bool := decide (x ≤ y)
def ordF (l : List (List UInt8)) : List (List UInt8) := l.mergeSort leL
def encA (a : Attr) : List UInt8 := wrapW 48 (idW a.1 ++ wrapW a.2.1.toNat a.2.2)
def encQ (r : List Attr) : List UInt8 := wrapW 49 (ordF (r.map encA)).flatten
def encB (n : Name) : List UInt8 := wrapW 48 (n.flatMap encQ)
def encN (n : Name) : List UInt8 × Int := if chkN n = 0 then (encB n, 0) else ([], chkN n)
def sortR (r : List Attr) : List Attr := r.mergeSort fun a b => leL (encA a) (encA b)
def mapE {α β : Type} (f : α → Except Int β) : List α → Except Int (List β)
  | [] => .ok []
  | x :: r => match f x with
    | .error k => .error k
    | .ok y => match mapE f r with
      | .error k => .error k
      | .ok l => .ok (y :: l)
def decAV (id : List UInt8) : List Elt → Except Int Attr
 | [] => .error 3
 | y :: q => if y.1 ≠ 12 ∧ y.1 ≠ 19 ∧ y.1 ≠ 22 then .error 5 else if q ≠ [] then .error 4 else .ok (id, (y.1 : Int), y.2.1)
def decAI (r : List Elt) : Option (List UInt8) → Except Int Attr
 | none => .error 11
 | some id => decAV id r
def decAL : List Elt → Except Int Attr
 | [] => .error 3
 | x :: r => if x.1 ≠ 6 then .error 5 else decAI r (decP x.2.1)
def decAG : Except Int (List Elt) → Except Int Attr
 | .error k => .error k
 | .ok l => decAL l
def decA (e : Elt) : Except Int Attr := decAG (openF e.1 48 e.2.1)
def ascB : List Elt → Bool
 | [] => true
 | [_] => true
 | a :: b :: r => leL a.2.2 b.2.2 && ascB (b :: r)
def decRL (l : List Elt) : Except Int (List Attr) := if ascB l = false then .error 9 else mapE decA l
def decRG : Except Int (List Elt) → Except Int (List Attr)
 | .error k => .error k
 | .ok l => decRL l
def decR (e : Elt) : Except Int (List Attr) := decRG (openF e.1 49 e.2.1)
def decNF : Except Int Name → Except Int Name
 | .error k => .error k
 | .ok n => if chkN n = 0 then .ok n else .error (chkN n)
def decNG : Except Int (List Elt) → Except Int Name
 | .error k => .error k
 | .ok l => decNF (mapE decR l)
def decNO : Except Int Elt → Except Int Name
 | .error k => .error k
 | .ok e => decNG (openF e.1 48 e.2.1)
def decN (b : List UInt8) : Except Int Name := decNO (oneF b)
def okA (a : Attr) : Prop := validB a.1 = true ∧ a.2.2 ≠ [] ∧ validT a.2.1 a.2.2 = true ∧ a.2.2.length ≤ 64
theorem chkA_iff : ∀ (r pre : List Attr), chkA pre r = 0 ↔ (∀ a ∈ r, okA a) ∧ (∀ a ∈ r, ∀ b ∈ pre, b.1 ≠ a.1) ∧ r.Pairwise (fun a b => a.1 ≠ b.1)
  | [], pre => by simp [chkA]
  | a :: r, pre => by
    have ih := chkA_iff r (pre ++ [a])
    rw [chkA]
    by_cases h1 : validB a.1 = false
    · rw [if_pos h1]
      refine ⟨fun h => (by cases h), fun h => ?_⟩
      have := (h.1 a (by simp)).1
      rw [h1] at this; cases this
    rw [if_neg h1]
    by_cases h2 : a.2.2 = [] ∨ validT a.2.1 a.2.2 = false
    · rw [if_pos h2]
      refine ⟨fun h => (by cases h), fun h => ?_⟩
      have := h.1 a (by simp)
      rcases h2 with h2 | h2
      · exact absurd h2 this.2.1
      · have h3 := this.2.2.1
        rw [h2] at h3; cases h3
    rw [if_neg h2]
    by_cases h3 : 64 < a.2.2.length
    · rw [if_pos h3]
      refine ⟨fun h => (by cases h), fun h => ?_⟩
      have := (h.1 a (by simp)).2.2.2
      omega
    rw [if_neg h3]
    by_cases h4 : pre.any (fun b => b.1 == a.1) = true
    · rw [if_pos h4]
      refine ⟨fun h => (by cases h), fun h => ?_⟩
      obtain ⟨b, hb, he⟩ := List.any_eq_true.1 h4
      exact absurd (by simpa using he) (h.2.1 a (by simp) b hb)
    rw [if_neg h4, ih]
    have hok : okA a := ⟨by simpa using h1, fun e => h2 (.inl e), by
      cases hv : validT a.2.1 a.2.2 with
      | true => rfl
      | false => exact absurd (.inr hv) h2, by omega⟩
    have hpre : ∀ b ∈ pre, b.1 ≠ a.1 := fun b hb he => h4 (List.any_eq_true.2 ⟨b, hb, by simpa using he⟩)
    simp only [List.mem_cons, List.mem_append, List.not_mem_nil, or_false, List.pairwise_cons]
    constructor
    · rintro ⟨g1, g2, g3⟩
      refine ⟨?_, ?_, ?_, g3⟩
      · rintro x (rfl | hx)
        · exact hok
        · exact g1 x hx
      · rintro x (rfl | hx) b hb
        · exact hpre b hb
        · exact g2 x hx b (.inl hb)
      · intro x hx
        exact g2 x hx a (.inr rfl)
    · rintro ⟨g1, g2, g3, g4⟩
      refine ⟨fun x hx => g1 x (.inr hx), ?_, g4⟩
      rintro x hx b (hb | rfl)
      · exact g2 x (.inr hx) b hb
      · exact g3 x hx
def okR (r : List Attr) : Prop := r.length ≠ 0 ∧ r.length ≤ 4 ∧ (∀ a ∈ r, okA a) ∧ r.Pairwise (fun a b => a.1 ≠ b.1)
theorem chkR_iff (r : List Attr) : chkR r = 0 ↔ okR r := by
 unfold chkR okR
 by_cases h1 : r.length = 0
 ·rw [if_pos h1]
  exact ⟨fun h => (by cases h), fun h => absurd h1 h.1⟩
 rw [if_neg h1]
 by_cases h2 : 4 < r.length
 ·rw [if_pos h2]
  exact ⟨fun h => (by cases h), fun h => by have := h.2.1; omega⟩
 rw [if_neg h2, chkA_iff]
 constructor
 ·rintro ⟨g1, _, g3⟩
  exact ⟨h1, by omega, g1, g3⟩
 ·rintro ⟨_, _, g1, g3⟩
  exact ⟨g1, fun a _ b hb => (by cases hb), g3⟩
theorem chkRs_iff : ∀ n : Name, chkRs n = 0 ↔ ∀ r ∈ n, okR r
  | [] => by simp [chkRs]
  | r :: n => by
    have ih := chkRs_iff n
    rw [chkRs]
    by_cases h : chkR r = 0
    · rw [if_pos h, ih]
      have := (chkR_iff r).1 h
      simp [this]
    · rw [if_neg h]
      exact ⟨fun k => absurd k h, fun k => absurd ((chkR_iff r).2 (k r (by simp))) h⟩
theorem chkN_iff (n : Name) : chkN n = 0 ↔ n.length ≤ 8 ∧ ∀ r ∈ n, okR r := by
 unfold chkN
 by_cases h : 8 < n.length
 ·rw [if_pos h]
  exact ⟨fun k => (by cases k), fun k => by have := k.1; omega⟩
 ·rw [if_neg h, chkRs_iff]
  exact ⟨fun k => ⟨by omega, k⟩, fun k => k.2⟩
theorem okR_perm {r s : List Attr} (h : r.Perm s) (k : okR r) : okR s := by
 obtain ⟨k1, k2, k3, k4⟩ := k
 refine ⟨by rw [← h.length_eq]; exact k1, by rw [← h.length_eq]; exact k2, fun a ha => k3 a (h.mem_iff.2 ha), ?_⟩
 exact (h.pairwise_iff (fun {x y} (e : x.1 ≠ y.1) => Ne.symm e)).1 k4
theorem okA_kind {a : Attr} (h : okA a) : (a.2.1 = 12 ∨ a.2.1 = 19 ∨ a.2.1 = 22) := by
 have := h.2.2.1
 unfold validT at this
 split at this
 ·rename_i e; exact .inl e
 ·split at this
  ·rename_i e; exact .inr (.inl e)
  ·split at this
   ·rename_i e; exact .inr (.inr e)
   ·cases this
theorem leL_trans (a b c : List UInt8) (h1 : leL a b = true) (h2 : leL b c = true) : leL a c = true := by
 unfold leL at *
 rw [decide_eq_true_eq] at *
 exact List.le_trans h1 h2
theorem leL_total (a b : List UInt8) : (leL a b || leL b a) = true := by
 unfold leL
 rw [Bool.or_eq_true, decide_eq_true_eq, decide_eq_true_eq]
 exact List.le_total a b
theorem leL_anti {a b : List UInt8} (h1 : leL a b = true) (h2 : leL b a = true) : a = b := by
 unfold leL at *
 rw [decide_eq_true_eq] at *
 exact List.le_antisymm h1 h2
theorem ordF_perm (l : List (List UInt8)) : (ordF l).Perm l := List.mergeSort_perm l _
theorem sortR_perm (r : List Attr) : (sortR r).Perm r := List.mergeSort_perm r _
theorem sortR_map (r : List Attr) : (sortR r).map encA = ordF (r.map encA) :=
 List.map_mergeSort (fun _ _ _ _ => rfl)
theorem asc_pair : ∀ l : List Elt, ascB l = true ↔ (l.map (·.2.2)).Pairwise (fun a b => leL a b = true)
  | [] => by simp [ascB]
  | [a] => by simp [ascB]
  | a :: b :: r => by
    have ih := asc_pair (b :: r)
    rw [ascB, Bool.and_eq_true, ih]
    simp only [List.map_cons, List.pairwise_cons, List.mem_cons]
    constructor
    · rintro ⟨h1, h2, h3⟩
      refine ⟨?_, h2, h3⟩
      rintro x (rfl | hx)
      · exact h1
      · exact leL_trans _ _ _ h1 (h2 x hx)
    · rintro ⟨h1, h2, h3⟩
      exact ⟨h1 _ (.inl rfl), h2, h3⟩
theorem ordF_pair (l : List (List UInt8)) : (ordF l).Pairwise (fun a b => leL a b = true) := List.pairwise_mergeSort leL_trans leL_total l
def bodyA (a : Attr) : List UInt8 := idW a.1 ++ wrapW a.2.1.toNat a.2.2
def eltA (a : Attr) : Elt := (48, bodyA a, encA a)
theorem kind_nat {a : Attr} (h : okA a) : a.2.1.toNat < 256 ∧ a.2.1.toNat % 32 ≠ 31 ∧ ((a.2.1.toNat : Nat) : Int) = a.2.1 := by
 rcases okA_kind h with e | e | e <;> rw [e] <;> refine ⟨by decide, by decide, rfl⟩
theorem bodyA_len {a : Attr} (h : okA a) : (bodyA a).length ≤ 1080 := by
 obtain ⟨c, hc, hcl⟩ := encP_valid h.1
 have h64 := h.2.2.2
 rw [bodyA, idW, hc, List.length_append, wrapW_len, wrapW_len, Option.getD_some]
 have := lenB_le c.length
 have := lenB_le a.2.2.length
 omega
theorem encA_len {a : Attr} (h : okA a) : (encA a).length ≤ 1085 := by
 have := bodyA_len h
 show (wrapW 48 (bodyA a)).length ≤ _
 rw [wrapW_len]
 have := lenB_le (bodyA a).length
 omega
theorem decA_elt {a : Attr} (h : okA a) : decA (eltA a) = .ok a := by
 obtain ⟨c, hc, hcl⟩ := encP_valid h.1
 obtain ⟨k1, k2, k3⟩ := kind_nat h
 have h64 := h.2.2.2
 have h2 := list_wrap a.2.1.toNat k1 k2 a.2.2 [] (by omega)
 rw [List.append_nil, listF_nil] at h2
 have h1 := list_wrap 6 (by omega) (by omega) c (wrapW a.2.1.toNat a.2.2) (by omega)
 rw [h2] at h1
 have h0 : openF (48 : Nat) 48 (bodyA a) = .ok [(6, c, wrapW 6 c), (a.2.1.toNat, a.2.2, wrapW a.2.1.toNat a.2.2)] := by
  rw [openF, if_neg (by simp), bodyA, idW, hc, Option.getD_some, h1]
 rw [decA, eltA]
 simp only
 rw [h0, decAG, decAL, if_neg (by simp), dec_enc hc, decAI, decAV]
 have hkk : ¬ (a.2.1.toNat ≠ 12 ∧ a.2.1.toNat ≠ 19 ∧ a.2.1.toNat ≠ 22) := by
  rcases okA_kind h with e | e | e <;> rw [e] <;> simp
 simp only
 rw [if_neg hkk, if_neg (by simp), k3]
theorem list_encA : ∀ l : List Attr, (∀ a ∈ l, okA a) → listF (l.map encA).flatten = .ok (l.map eltA)
  | [], _ => rfl
  | a :: l, h => by
    have ih := list_encA l (fun x hx => h x (by simp [hx]))
    have ha := h a (by simp)
    have := bodyA_len ha
    have h1 := list_wrap 48 (by omega) (by omega) (bodyA a) (l.map encA).flatten (by omega)
    rw [ih] at h1
    rw [List.map_cons, List.flatten_cons, List.map_cons]
    exact h1
theorem mapE_ok {α β : Type} {f : α → Except Int β} {g : β → α} : ∀ l : List β, (∀ x ∈ l, f (g x) = .ok x) → mapE f (l.map g) = .ok l
  | [], _ => rfl
  | x :: l, h => by
    rw [List.map_cons, mapE, h x (by simp), mapE_ok l (fun y hy => h y (by simp [hy]))]
theorem flat_len (k : Nat) : ∀ l : List (List UInt8), (∀ x ∈ l, x.length ≤ k) → l.flatten.length ≤ l.length * k
  | [], _ => by simp
  | x :: l, h => by
    have ih := flat_len k l (fun y hy => h y (by simp [hy]))
    have := h x (by simp)
    rw [List.flatten_cons, List.length_append, List.length_cons, Nat.add_mul, Nat.one_mul]
    omega
theorem ord_len {r : List Attr} (h : okR r) : (ordF (r.map encA)).flatten.length ≤ 4340 := by
 have h4 := h.2.1
 have h1 := flat_len 1085 (ordF (r.map encA)) (fun x hx => by
  obtain ⟨a, ha, rfl⟩ := List.mem_map.1 ((ordF_perm _).mem_iff.1 hx)
  exact encA_len (h.2.2.1 a ha))
 have h2 : (ordF (r.map encA)).length = r.length := by rw [(ordF_perm _).length_eq, List.length_map]
 rw [h2] at h1
 have := Nat.mul_le_mul_right 1085 h4
 omega
theorem encQ_len {r : List Attr} (h : okR r) : (encQ r).length ≤ 4345 := by
 have := ord_len h
 rw [encQ, wrapW_len]
 have := lenB_le (ordF (r.map encA)).flatten.length
 omega
def eltR (r : List Attr) : Elt := (49, (ordF (r.map encA)).flatten, encQ r)
theorem decR_elt {r : List Attr} (h : okR r) : decR (eltR r) = .ok (sortR r) := by
 have hs : okR (sortR r) := okR_perm (sortR_perm r).symm h
 have h1 := list_encA (sortR r) hs.2.2.1
 rw [sortR_map] at h1
 rw [decR, eltR]
 simp only
 rw [openF, if_neg (by simp), h1, decRG, decRL]
 have h2 : ascB ((sortR r).map eltA) = true := by
  rw [asc_pair, List.map_map]
  have e : (sortR r).map ((fun x : Elt => x.2.2) ∘ eltA) = ordF (r.map encA) := by rw [← sortR_map]; rfl
  rw [e]
  exact ordF_pair _
 rw [h2, if_neg (by simp)]
 exact mapE_ok _ (fun x hx => decA_elt (hs.2.2.1 x hx))
theorem list_encQ : ∀ n : Name, (∀ r ∈ n, okR r) → listF (n.flatMap encQ) = .ok (n.map eltR)
  | [], _ => rfl
  | r :: n, h => by
    have ih := list_encQ n (fun x hx => h x (by simp [hx]))
    have hr := ord_len (h r (by simp))
    have h1 := list_wrap 49 (by omega) (by omega) (ordF (r.map encA)).flatten (n.flatMap encQ) (by omega)
    rw [ih] at h1
    rw [List.flatMap_cons, List.map_cons]
    exact h1
theorem mapE_sort : ∀ n : Name, (∀ r ∈ n, okR r) → mapE decR (n.map eltR) = .ok (n.map sortR)
  | [], _ => rfl
  | r :: n, h => by
    rw [List.map_cons, mapE, decR_elt (h r (by simp)), mapE_sort n (fun y hy => h y (by simp [hy])), List.map_cons]
theorem chkN_sort {n : Name} (h : chkN n = 0) : chkN (n.map sortR) = 0 := by
 rw [chkN_iff] at *
 refine ⟨by rw [List.length_map]; exact h.1, fun s hs => ?_⟩
 obtain ⟨r, hr, rfl⟩ := List.mem_map.1 hs
 exact okR_perm (sortR_perm r).symm (h.2 r hr)
theorem encB_len {n : Name} (h : chkN n = 0) : (n.flatMap encQ).length ≤ 34760 := by
 obtain ⟨h8, hr⟩ := (chkN_iff n).1 h
 have h1 := flat_len 4345 (n.map encQ) (fun x hx => by
  obtain ⟨r, hr', rfl⟩ := List.mem_map.1 hx
  exact encQ_len (hr r hr'))
 rw [List.length_map] at h1
 have := Nat.mul_le_mul_right 4345 h8
 rw [List.flatMap_def]
 omega
theorem decN_enc {n : Name} (h : chkN n = 0) : decN (encB n) = .ok (n.map sortR) := by
 have hl := encB_len h
 rw [decN, encB, one_wrap 48 (by omega) (by omega) _ (by omega), decNO]
 simp only
 rw [openF, if_neg (by simp), list_encQ n ((chkN_iff n).1 h).2, decNG, mapE_sort n ((chkN_iff n).1 h).2, decNF, if_pos (chkN_sort h)]
def GoodE (e : Elt) : Prop := e.1 < 256 ∧ e.1 % 32 ≠ 31 ∧ e.2.1.length ≤ 131072 ∧ e.2.2 = wrapW e.1 e.2.1
theorem open_ok {a t : Nat} {c : List UInt8} {l : List Elt} (h : openF a t c = .ok l) : a = t ∧ listF c = .ok l ∧ c = l.flatMap (·.2.2) ∧ ∀ e ∈ l, GoodE e := by
 unfold openF at h
 by_cases e : (a : Int) ≠ (t : Int)
 ·rw [if_pos e] at h; cases h
 ·rw [if_neg e] at h
  exact ⟨by omega, h, list_raw _ _ _ (Nat.le_refl _) h, list_is_wrap _ _ _ (Nat.le_refl _) h⟩
def sameRB (a b : List Attr) : Bool := decide (a.length = b.length) && a.all fun x => b.contains x
def sameNB : Name → Name → Bool
 | [], [] => true
 | a :: n, b :: m => sameRB a b && sameNB n m
 | _, _ => false
theorem same_sort : ∀ n : Name, sameNB n (n.map sortR) = true
  | [] => rfl
  | r :: n => by
    rw [List.map_cons, sameNB, same_sort n, Bool.and_true, sameRB, Bool.and_eq_true]
    refine ⟨by simp [sortR], ?_⟩
    rw [List.all_eq_true]
    intro x hx
    rw [List.contains_iff_mem]
    exact (sortR_perm r).mem_iff.2 hx
end Go.Proofs.YtmgnihmjjijdoaaGreatDoor
namespace Go.Proofs.YtmgnihmjjijdoaaGreatDoor
open Go.RowKit
theorem asc_at {l : List Elt} {q k : Nat} (hq : q + 1 = k) (hk : k < l.length) : ascB (l.drop q) = (leL (l[q]'(by omega)).2.2 l[k].2.2 && ascB (l.drop k)) := by
 subst hq
 rw [List.drop_eq_getElem_cons (show q < l.length by omega), List.drop_eq_getElem_cons hk, ascB]
theorem asc_end {l : List Elt} {q : Nat} (h : l.length ≤ q + 1) : ascB (l.drop q) = true := by
 have hl : (l.drop q).length ≤ 1 := by rw [List.length_drop]; omega
 match l.drop q, hl with
 | [], _ => rfl
 | [_], _ => rfl
 | _ :: _ :: _, h => simp at h
set_option maxRecDepth 100000 in
set_option maxHeartbeats 4000000 in
theorem Asc_any (l : List Elt) (A : Option Addr) (c : Nat) (w : World) (h : Sl RElt 3 w (Lt w.heap.size) l [.slice A l.length c]) :
    Calls Tryz.prog 131 #[.slice A l.length c] w fun e w' => e = .returned (.bool (ascB l)) ∧ Below w.heap.size w w' := by
  obtain ⟨o, ho⟩ : ∃ o, ascB l = o := ⟨_, rfl⟩
  rw [ho]
  have HO := hide (show ascB (l.drop 0) = o from ho)
  have K := hide h
  obtain ⟨-, hlc, hcm⟩ := h.len_
  unfold maxLen at hcm
  clear ho h
  go_enter Tryz.func131, Tryz.ntmps131
  go_wp2_with fail
  go_loopw [3] (fun i wr => ∃ (k q : Nat), q + 1 = k ∧ (k ≤ l.length ∨ k = 1) ∧ i = .int .i64 k ∧ Below w.heap.size w wr ∧ ascB (l.drop q) = o) (fun i _ => l.length - (intOf i).toNat)
  case atStart => exact ⟨1, 0, rfl, .inr rfl, rfl, Below.refl _ _, HO.out⟩
  case round =>
    obtain ⟨k, q, hkq, hk, rfl, hb, hasc⟩ := hrel
    have HA := hide hasc
    clear hasc
    by_cases hlt : k < l.length
    · have hk1 : (k : Int) - 1 = (q : Int) := by omega
      have hql : q < l.length := by omega
      obtain ⟨b1, o1, hA, hS1, d0, d1, d2⟩ := K.out.eltAt hlt
      obtain ⟨b2, o2, hA2, hS2, e0, e1, e2⟩ := K.out.eltAt hql
      cases hA
      cases hA2
      obtain ⟨x, hx⟩ : ∃ x : ByteArray, x = ⟨l[k].2.2.toArray⟩ := ⟨_, rfl⟩
      obtain ⟨y, hy⟩ : ∃ y : ByteArray, y = ⟨l[q].2.2.toArray⟩ := ⟨_, rfl⟩
      have HAT := hide (show ascB (l.drop q) = (leL y.data.toList x.data.toList && ascB (l.drop k)) by rw [asc_at hkq hlt, hx, hy])
      have d2' := (hb.cell (p := ⟨b1, o1 + k * 3 + 2, none⟩) hS1).trans (hx ▸ d2)
      have e2' := (hb.cell (p := ⟨b1, o1 + q * 3 + 2, none⟩) hS1).trans (hy ▸ e2)
      have HB := hide hb
      have hkl : (k : Int) < (l.length : Int) := by omega
      have hql2 : (q : Int) < (l.length : Int) := by omega
      have hkq2 := hide hkq
      obtain ⟨v, hv⟩ : ∃ v, leL y.data.toList x.data.toList = v := ⟨_, rfl⟩
      have hless : Op.bytesLess x.toList y.toList = !v := by
        rw [Go.Proofs.bytesLess_eq, ByteArray.toList_eq, ByteArray.toList_eq, ← hv, leL]
        by_cases e : x.data.toList < y.data.toList
        · rw [decide_eq_true e, decide_eq_false (by rw [List.not_le]; exact e)]; rfl
        · rw [decide_eq_false e, decide_eq_true (by rw [← List.not_lt]; exact e)]; rfl
      have HV := hide hv
      clear d0 d1 d2 e0 e1 e2 hx hy hb hkq hlt hql hv
      go_wp2_with fail
      go_quiet (fail)
      cases v with
      | false =>
        have HN := hide (show o = false by rw [← HA.out, HAT.out, HV.out]; rfl)
        go_wp2_with fail
        go_ret
        exact ⟨by rw [HN.out]; rfl, below_drewN HB.out _⟩
      | true =>
        have HN := hide (show ascB (l.drop k) = o by rw [← HA.out, HAT.out, HV.out]; rfl)
        clear d2' e2' hless
        go_wp2_with fail
        go_roundw
        case rel => exact ⟨k + 1, k, rfl, .inl (by omega), by go_num, below_drewN HB.out _, HN.out⟩
        case measure => simp [intOf]; omega
    · have HN := hide (show o = true by rw [← HA.out]; exact asc_end (by omega))
      have hkl : ¬ (k : Int) < (l.length : Int) := by omega
      clear hlt
      go_wp2_with fail
      go_ret
      exact ⟨by rw [HN.out]; rfl, hb⟩
end Go.Proofs.YtmgnihmjjijdoaaGreatDoor
namespace Go.Proofs.YtmgnihmjjijdoaaGreatDoor
open Go.RowKit
def AtB (g : Nat) (i : ByteArray) (k : Int) (v : ByteArray) (W : World) : Prop := W.heap[g]? = some (.cells #[.string i, .int .i64 k, .string v] 84 (0, 0))
theorem AtB.facts {g : Nat} {i v : ByteArray} {k : Int} {W : World} (h : AtB g i k v W) : W.cell? ⟨g, 0, none⟩ = some (.string i) ∧ W.cell? ⟨g, 1, none⟩ = some (.int .i64 k) ∧ W.cell? ⟨g, 2, none⟩ = some (.string v) ∧
  W.frozen? ⟨g, 0, none⟩ = false ∧ W.frozen? ⟨g, 1, none⟩ = false ∧ W.frozen? ⟨g, 2, none⟩ = false := by
 unfold AtB at h
 simp [World.cell?, World.frozen?, h]
theorem AtB.lt {g : Nat} {i v : ByteArray} {k : Int} {W : World} (h : AtB g i k v W) : g < W.heap.size := (Array.getElem?_eq_some_iff.1 h).1
theorem AtB.below {g : Nat} {i v : ByteArray} {k : Int} {W W' : World} (h : AtB g i k v W) (hb : Below W.heap.size W W') : AtB g i k v W' := (hb.block g h.lt).trans h
theorem AtB.ex {g d : Nat} {i v : ByteArray} {k : Int} {W W' : World} (h : AtB g i k v W) (hx : Ex d W W') (hne : g ≠ d) : AtB g i k v W' := (hx.block g h.lt (fun e => hne (Option.some.inj e))).trans h
theorem AtB.new (w : World) (i v : ByteArray) (k : Int) : AtB w.heap.size i k v (w.alloc (.cells #[.string i, .int .i64 k, .string v] 84)) := heap_alloc_new w _
theorem AtB.store {g : Nat} {i v : ByteArray} {k : Int} {W : World} (h : AtB g i k v W) (a b c : Value) :
  (((W.setCell ⟨g, 0, none⟩ a).setCell ⟨g, 1, none⟩ b).setCell ⟨g, 2, none⟩ c).cell? ⟨g, 0, none⟩ = some a ∧ (((W.setCell ⟨g, 0, none⟩ a).setCell ⟨g, 1, none⟩ b).setCell ⟨g, 2, none⟩ c).cell? ⟨g, 1, none⟩ = some b ∧
  (((W.setCell ⟨g, 0, none⟩ a).setCell ⟨g, 1, none⟩ b).setCell ⟨g, 2, none⟩ c).cell? ⟨g, 2, none⟩ = some c := by
 unfold AtB at h
 simp [World.cell?, World.setCell, Array.getElem?_modify, h]
def decAR : Except Int Attr → Value
 | .error k => .tuple #[.agg #[.string ⟨#[]⟩, .int .i64 0, .string ⟨#[]⟩], .int .i64 k]
 | .ok a => .tuple #[.agg #[.string ⟨a.1.toArray⟩, .int .i64 a.2.1, .string ⟨a.2.2.toArray⟩], .int .i64 0]
structure DAt (w W : World) : Prop where
 below : Below w.heap.size w W
 r : AtB (w.heap.size + 1) ⟨#[]⟩ 0 ⟨#[]⟩ W
 n : AtB (w.heap.size + 2) ⟨#[]⟩ 0 ⟨#[]⟩ W
theorem DAt.grow {w W W' : World} (h : DAt w W) (hb : Below W.heap.size W W') : DAt w W' := ⟨h.below.trans (hb.mono h.below.size), h.r.below hb, h.n.below hb⟩
theorem three_attr (w : World) (a b c : Value) : ∃ W, W = ((w.alloc (.cells #[a, b, c] 45)).alloc (.cells #[.string ⟨#[]⟩, .int .i64 0, .string ⟨#[]⟩] 84)).alloc (.cells #[.string ⟨#[]⟩, .int .i64 0, .string ⟨#[]⟩] 84) ∧
  DAt w W ∧ W.heap.size = w.heap.size + 3 ∧ W.cell? ⟨w.heap.size, 0, none⟩ = some a ∧ W.cell? ⟨w.heap.size, 1, none⟩ = some b ∧ W.cell? ⟨w.heap.size, 2, none⟩ = some c := by
 obtain ⟨W1, h1⟩ : ∃ W, W = w.alloc (.cells #[a, b, c] 45) := ⟨_, rfl⟩
 obtain ⟨W2, h2⟩ : ∃ W, W = W1.alloc (.cells #[.string ⟨#[]⟩, .int .i64 0, .string ⟨#[]⟩] 84) := ⟨_, rfl⟩
 obtain ⟨W3, h3⟩ : ∃ W, W = W2.alloc (.cells #[.string ⟨#[]⟩, .int .i64 0, .string ⟨#[]⟩] 84) := ⟨_, rfl⟩
 rw [← h1, ← h2]
 have z1 : W1.heap.size = w.heap.size + 1 := by rw [h1]; simp
 have z2 : W2.heap.size = w.heap.size + 2 := by rw [h2]; simp [z1]
 have b1 : Below w.heap.size w W1 := by rw [h1]; exact (Below.refl _ _).alloc (Nat.le_refl _) _
 have b2 : Below W1.heap.size W1 W2 := by rw [h2]; exact (Below.refl _ _).alloc (Nat.le_refl _) _
 have b3 : Below W2.heap.size W2 W3 := by rw [h3]; exact (Below.refl _ _).alloc (Nat.le_refl _) _
 have b13 := b2.trans (b3.mono b2.size)
 have c0 : ∀ j, W3.cell? ⟨w.heap.size, j, none⟩ = W1.cell? ⟨w.heap.size, j, none⟩ := fun j => b13.cell (p := ⟨w.heap.size, j, none⟩) (by show w.heap.size < _; omega)
 have r2 : AtB (w.heap.size + 1) ⟨#[]⟩ 0 ⟨#[]⟩ W2 := by rw [h2, ← z1]; exact AtB.new W1 _ _ _
 have r3 : AtB (w.heap.size + 2) ⟨#[]⟩ 0 ⟨#[]⟩ W3 := by rw [h3, ← z2]; exact AtB.new W2 _ _ _
 refine ⟨W3, h3, ⟨b1.trans (b13.mono b1.size), r2.below b3, r3⟩, by rw [h3]; simp [z2], ?_, ?_, ?_⟩
 ·rw [c0, h1, World.cell?_alloc_new]; rfl
 ·rw [c0, h1, World.cell?_alloc_new]; rfl
 ·rw [c0, h1, World.cell?_alloc_new]; rfl
set_option maxRecDepth 100000 in
set_option maxHeartbeats 16000000 in
theorem decAttr_any (t : Nat) (c raw : ByteArray) (hc : c.size ≤ 131072) (w : World) (htb : Tb w) :
    Calls Tryz.prog 132 #[.agg #[.int .i64 (t : Int), .string c, .string raw]] w fun e w' => e = .returned (decAR (decA (t, c.data.toList, raw.data.toList))) ∧ Below w.heap.size w w' := by
  obtain ⟨o, ho⟩ : ∃ o, decA (t, c.data.toList, raw.data.toList) = o := ⟨_, rfl⟩
  rw [ho]
  have HO := hide ho
  have HTB := hide htb
  clear ho htb
  obtain ⟨W0, hW0, hd0, hz0, n0, n1, n2⟩ := three_attr w (.int .i64 (t : Int)) (.string c) (.string raw)
  have HD0 := hide hd0
  clear hd0 n2
  go_enter Tryz.func132, Tryz.ntmps132
  go_upto_region 2 with fail
  simp only [Nat.add_assoc, Nat.reduceAdd]
  rw [← hW0]
  clear hW0 hz0
  by_cases h48 : t = 48
  · have ht : ((t : Int) != 48) = false := by rw [h48]; rfl
    obtain ⟨L, hL⟩ : ∃ L, listF c.data.toList = L := ⟨_, rfl⟩
    have HX := hide (show o = decAG L by rw [← HO.out, decA]; simp only; rw [openF, if_neg (by omega), hL])
    have HL := hide hL
    clear h48 hL
    go_wp2_with fail
    refine (List_any c (by omega) _).mono ?_
    rintro e w1 ⟨hb1, hres⟩
    rw [HL.out] at hres
    have hd1 := HD0.out.grow hb1
    clear n0 n1
    cases L with
    | error k =>
      obtain rfl : e = _ := hres
      have hk : k ≠ 0 := fun h => list_err0 _ _ (Nat.le_refl _) (h ▸ HL.out)
      have ht2 : (k != 0) = true := by simpa using hk
      have HN := hide (show o = .error k from HX.out)
      clear hk
      obtain ⟨r0, r1, r2, f0, f1, f2⟩ := (hd1).r.facts
      obtain ⟨n0, n1, n2, -, -, -⟩ := (hd1).n.facts
      go_wp2_with fail
      obtain ⟨q0, q1, q2⟩ := (hd1).r.store (.string ⟨#[]⟩) (.int .i64 0) (.string ⟨#[]⟩)
      have hbz := ((((hd1).below).setCell (p := ⟨w.heap.size + 1, 0, none⟩) (Nat.le_succ _) (.string ⟨#[]⟩)).setCell (p := ⟨w.heap.size + 1, 1, none⟩) (Nat.le_succ _) (.int .i64 0)).setCell (p := ⟨w.heap.size + 1, 2, none⟩) (Nat.le_succ _) (.string ⟨#[]⟩)
      obtain ⟨W3, hW3⟩ : ∃ W3, W3 = ((w1.setCell ⟨w.heap.size + 1, 0, none⟩ (.string ⟨#[]⟩)).setCell ⟨w.heap.size + 1, 1, none⟩ (.int .i64 0)).setCell ⟨w.heap.size + 1, 2, none⟩ (.string ⟨#[]⟩) := ⟨_, rfl⟩
      rw [← hW3] at q0 q1 q2 hbz ⊢
      exact bodyPost_ret (v := .tuple #[.agg #[(.string ⟨#[]⟩), (.int .i64 0), (.string ⟨#[]⟩)], .int .i64 k]) (by simp [results, Tryz.results132, go_sem, q0, q1, q2]) rfl ⟨by rw [HN.out]; rfl, hbz⟩
    | ok l =>
      obtain ⟨A, cp, rfl, hsl⟩ := hres
      have HX2 := hide (show o = decAL l from HX.out)
      have HML := hide (list_is_wrap _ _ _ (Nat.le_refl _) HL.out)
      have HD1 := hide hd1
      have HSL := hide hsl
      clear hd1 hsl hb1
      cases l with
      | nil =>
        have HN := hide (show o = .error 3 from HX2.out)
        rw [List.length_nil]
        obtain ⟨r0, r1, r2, f0, f1, f2⟩ := (HD1.out).r.facts
        obtain ⟨n0, n1, n2, -, -, -⟩ := (HD1.out).n.facts
        go_wp2_with fail
        obtain ⟨q0, q1, q2⟩ := (HD1.out).r.store (.string ⟨#[]⟩) (.int .i64 0) (.string ⟨#[]⟩)
        have hbz := ((((HD1.out).below).setCell (p := ⟨w.heap.size + 1, 0, none⟩) (Nat.le_succ _) (.string ⟨#[]⟩)).setCell (p := ⟨w.heap.size + 1, 1, none⟩) (Nat.le_succ _) (.int .i64 0)).setCell (p := ⟨w.heap.size + 1, 2, none⟩) (Nat.le_succ _) (.string ⟨#[]⟩)
        obtain ⟨W3, hW3⟩ : ∃ W3, W3 = ((w1.setCell ⟨w.heap.size + 1, 0, none⟩ (.string ⟨#[]⟩)).setCell ⟨w.heap.size + 1, 1, none⟩ (.int .i64 0)).setCell ⟨w.heap.size + 1, 2, none⟩ (.string ⟨#[]⟩) := ⟨_, rfl⟩
        rw [← hW3] at q0 q1 q2 hbz ⊢
        exact bodyPost_ret (v := .tuple #[.agg #[(.string ⟨#[]⟩), (.int .i64 0), (.string ⟨#[]⟩)], .int .i64 3]) (by simp [results, Tryz.results132, go_sem, q0, q1, q2]) rfl ⟨by rw [HN.out]; rfl, hbz⟩
      | cons a r =>
        obtain ⟨at_, ac, ar⟩ := a
        obtain ⟨bb, oo, hAA, hSS, e0, e1, e2⟩ := HSL.out.eltAt (i := 0) (by simp)
        have hacl := (HML.out (at_, ac, ar) (by simp)).2.2.1
        subst hAA
        simp only [List.getElem_cons_zero, Nat.zero_mul, Nat.add_zero] at e0 e1 e2 hacl
        obtain ⟨xa, hxa⟩ : ∃ x : ByteArray, x = ⟨ac.toArray⟩ := ⟨_, rfl⟩
        have had : ac = xa.data.toList := by rw [hxa]
        rw [← hxa] at e1
        rw [had, size_string] at hacl
        have hlen : ((at_, ac, ar) :: r).length = r.length + 1 := rfl
        obtain ⟨nn, hnn⟩ : ∃ nn, ((at_, ac, ar) :: r).length = nn := ⟨_, rfl⟩
        have HNN := hide (show nn = r.length + 1 by rw [← hnn, hlen])
        rw [hnn]
        have hnn1 : ¬ (nn : Int) < 1 := by have := HNN.out; omega
        have hnn2 : (0 : Int) < (nn : Int) := by have := HNN.out; omega
        have hnn3 : 0 < nn := by have := HNN.out; omega
        have HSLn := hide (show Sl RElt 3 w1 (Btw W0.heap.size w1.heap.size) ((at_, ac, ar) :: r) [.slice (some ⟨bb, oo, none⟩) nn cp] by rw [← hnn]; exact HSL.out)
        clear hxa hlen hnn HSL
        by_cases h6 : at_ = 6
        · have ht6 : ((at_ : Int) != 6) = false := by rw [h6]; rfl
          obtain ⟨d, hd⟩ : ∃ d, decP xa.data.toList = d := ⟨_, rfl⟩
          have HX3 := hide (show o = decAI r d by rw [HX2.out, decAL, if_neg (by simpa using h6)]; simp only; rw [had, hd])
          have HDD := hide hd
          clear h6 hd had
          go_wp2_with fail
          refine (Decode_any xa (by omega) _ (HTB.out.below HD1.out.below)).mono ?_
          rintro e w2 ⟨rfl, hb2⟩
          rw [HDD.out]
          have HD2 := hide (HD1.out.grow hb2)
          have HB2 := hide hb2
          clear hb2 e0 e1 e2 ht6
          cases d with
          | none =>
            have HN := hide (show o = .error 11 from HX3.out)
            rw [show encR none = .tuple #[.string ⟨#[]⟩, .int .i64 11] from rfl]
            obtain ⟨r0, r1, r2, f0, f1, f2⟩ := (HD2.out).r.facts
            obtain ⟨n0, n1, n2, -, -, -⟩ := (HD2.out).n.facts
            go_wp2_with fail
            obtain ⟨q0, q1, q2⟩ := (HD2.out).r.store (.string ⟨#[]⟩) (.int .i64 0) (.string ⟨#[]⟩)
            have hbz := ((((HD2.out).below).setCell (p := ⟨w.heap.size + 1, 0, none⟩) (Nat.le_succ _) (.string ⟨#[]⟩)).setCell (p := ⟨w.heap.size + 1, 1, none⟩) (Nat.le_succ _) (.int .i64 0)).setCell (p := ⟨w.heap.size + 1, 2, none⟩) (Nat.le_succ _) (.string ⟨#[]⟩)
            obtain ⟨W3, hW3⟩ : ∃ W3, W3 = ((w2.setCell ⟨w.heap.size + 1, 0, none⟩ (.string ⟨#[]⟩)).setCell ⟨w.heap.size + 1, 1, none⟩ (.int .i64 0)).setCell ⟨w.heap.size + 1, 2, none⟩ (.string ⟨#[]⟩) := ⟨_, rfl⟩
            rw [← hW3] at q0 q1 q2 hbz ⊢
            exact bodyPost_ret (v := .tuple #[.agg #[(.string ⟨#[]⟩), (.int .i64 0), (.string ⟨#[]⟩)], .int .i64 11]) (by simp [results, Tryz.results132, go_sem, q0, q1, q2]) rfl ⟨by rw [HN.out]; rfl, hbz⟩
          | some id =>
            obtain ⟨y, hy⟩ : ∃ y : ByteArray, y = ⟨id.toArray⟩ := ⟨_, rfl⟩
            have hyd : id = y.data.toList := by rw [hy]
            rw [show encR (some id) = .tuple #[.string y, .int .i64 0] by rw [hy]; rfl]
            have HX4 := hide (show o = decAV y.data.toList r by rw [← hyd]; exact HX3.out)
            clear hy hyd
            cases r with
            | nil =>
              have hnn4 : (nn : Int) < 2 := by have := HNN.out; simp at this; omega
              have HN := hide (show o = .error 3 from HX4.out)
              obtain ⟨r0, r1, r2, f0, f1, f2⟩ := (HD2.out).r.facts
              obtain ⟨n0, n1, n2, -, -, -⟩ := (HD2.out).n.facts
              go_wp2_with fail
              obtain ⟨q0, q1, q2⟩ := (HD2.out).r.store (.string ⟨#[]⟩) (.int .i64 0) (.string ⟨#[]⟩)
              have hbz := ((((HD2.out).below).setCell (p := ⟨w.heap.size + 1, 0, none⟩) (Nat.le_succ _) (.string ⟨#[]⟩)).setCell (p := ⟨w.heap.size + 1, 1, none⟩) (Nat.le_succ _) (.int .i64 0)).setCell (p := ⟨w.heap.size + 1, 2, none⟩) (Nat.le_succ _) (.string ⟨#[]⟩)
              obtain ⟨W3, hW3⟩ : ∃ W3, W3 = ((w2.setCell ⟨w.heap.size + 1, 0, none⟩ (.string ⟨#[]⟩)).setCell ⟨w.heap.size + 1, 1, none⟩ (.int .i64 0)).setCell ⟨w.heap.size + 1, 2, none⟩ (.string ⟨#[]⟩) := ⟨_, rfl⟩
              rw [← hW3] at q0 q1 q2 hbz ⊢
              exact bodyPost_ret (v := .tuple #[.agg #[(.string ⟨#[]⟩), (.int .i64 0), (.string ⟨#[]⟩)], .int .i64 3]) (by simp [results, Tryz.results132, go_sem, q0, q1, q2]) rfl ⟨by rw [HN.out]; rfl, hbz⟩
            | cons v q =>
              obtain ⟨vt, vc, vr⟩ := v
              have hnn4 : ¬ (nn : Int) < 2 := by have := HNN.out; simp at this; omega
              have hnn5 : (1 : Int) < (nn : Int) := by have := HNN.out; simp at this; omega
              have hnn6 : 1 < nn := by have := HNN.out; simp at this; omega
              obtain ⟨bv, ov, hAV, hSV, g0, g1, g2⟩ := HSLn.out.eltAt (i := 1) (by simp)
              cases hAV
              simp only [List.getElem_cons_succ, List.getElem_cons_zero, Nat.one_mul] at g0 g1 g2
              obtain ⟨xv, hxv⟩ : ∃ x : ByteArray, x = ⟨vc.toArray⟩ := ⟨_, rfl⟩
              have hvd : vc = xv.data.toList := by rw [hxv]
              rw [← hxv] at g1
              have g0' := (HB2.out.cell (p := ⟨bb, oo + 3, none⟩) hSV.2).trans g0
              have g1' := (HB2.out.cell (p := ⟨bb, oo + 3 + 1, none⟩) hSV.2).trans g1
              have HX5 := hide (show o = if vt ≠ 12 ∧ vt ≠ 19 ∧ vt ≠ 22 then .error 5 else if q ≠ [] then .error 4 else .ok (y.data.toList, (vt : Int), xv.data.toList) by rw [HX4.out, decAV, hvd])
              have HQ := hide (show nn = q.length + 2 by have := HNN.out; simp at this; omega)
              clear g0 g1 g2 hxv hvd
              by_cases hk : vt = 12 ∨ vt = 19 ∨ vt = 22
              · have HX6 := hide (show o = if q ≠ [] then .error 4 else .ok (y.data.toList, (vt : Int), xv.data.toList) by rw [HX5.out, if_neg (by omega)])
                rcases hk with rfl | rfl | rfl
                · have hcast : ((12 : Nat) : Int) = 12 := rfl
                  rw [hcast] at g0' HX6
                  clear hcast
                  by_cases hq : q = []
                  · have HN := hide (show o = .ok (y.data.toList, 12, xv.data.toList) by rw [HX6.out, if_neg (by simpa using hq)])
                    have hql : ¬ (2 : Int) < (nn : Int) := by have := HQ.out; rw [hq] at this; simp at this; omega
                    clear hq
                    obtain ⟨r0, r1, r2, f0, f1, f2⟩ := HD2.out.r.facts
                    go_wp2_with fail
                    go_region
                    all_goals
                      obtain ⟨q0, q1, q2⟩ := HD2.out.r.store (.string y) (.int .i64 12) (.string xv)
                      have hbz := (((HD2.out.below).setCell (p := ⟨w.heap.size + 1, 0, none⟩) (Nat.le_succ _) (.string y)).setCell (p := ⟨w.heap.size + 1, 1, none⟩) (Nat.le_succ _) (.int .i64 12)).setCell (p := ⟨w.heap.size + 1, 2, none⟩) (Nat.le_succ _) (.string xv)
                      obtain ⟨W3, hW3⟩ : ∃ W3, W3 = ((w2.setCell ⟨w.heap.size + 1, 0, none⟩ (.string y)).setCell ⟨w.heap.size + 1, 1, none⟩ (.int .i64 12)).setCell ⟨w.heap.size + 1, 2, none⟩ (.string xv) := ⟨_, rfl⟩
                      rw [← hW3] at q0 q1 q2 hbz ⊢
                      have q0' : W3.drew.cell? ⟨w.heap.size + 1, 0, none⟩ = some (.string y) := q0
                      have q1' : W3.drew.cell? ⟨w.heap.size + 1, 1, none⟩ = some (.int .i64 12) := q1
                      have q2' : W3.drew.cell? ⟨w.heap.size + 1, 2, none⟩ = some (.string xv) := q2
                      clear r0 r1 r2 f0 f1 f2 g0' g1' q0 q1 q2 hW3
                      go_wp2_with fail
                      exact bodyPost_ret (v := .tuple #[.agg #[.string y, .int .i64 12, .string xv], .int .i64 0]) (by simp [results, Tryz.results132, go_sem, q0', q1', q2']) rfl ⟨by rw [HN.out]; rfl, below_drewN hbz 1⟩
                  · have HN := hide (show o = .error 4 by rw [HX6.out, if_pos hq])
                    have hql : (2 : Int) < (nn : Int) := by have := HQ.out; have := List.length_pos_iff.2 hq; omega
                    clear hq
                    obtain ⟨r0, r1, r2, f0, f1, f2⟩ := (HD2.out).r.facts
                    obtain ⟨n0, n1, n2, -, -, -⟩ := (HD2.out).n.facts
                    go_wp2_with fail
                    obtain ⟨q0, q1, q2⟩ := (HD2.out).r.store (.string ⟨#[]⟩) (.int .i64 0) (.string ⟨#[]⟩)
                    have hbz := ((((HD2.out).below).setCell (p := ⟨w.heap.size + 1, 0, none⟩) (Nat.le_succ _) (.string ⟨#[]⟩)).setCell (p := ⟨w.heap.size + 1, 1, none⟩) (Nat.le_succ _) (.int .i64 0)).setCell (p := ⟨w.heap.size + 1, 2, none⟩) (Nat.le_succ _) (.string ⟨#[]⟩)
                    obtain ⟨W3, hW3⟩ : ∃ W3, W3 = ((w2.setCell ⟨w.heap.size + 1, 0, none⟩ (.string ⟨#[]⟩)).setCell ⟨w.heap.size + 1, 1, none⟩ (.int .i64 0)).setCell ⟨w.heap.size + 1, 2, none⟩ (.string ⟨#[]⟩) := ⟨_, rfl⟩
                    rw [← hW3] at q0 q1 q2 hbz ⊢
                    exact bodyPost_ret (v := .tuple #[.agg #[(.string ⟨#[]⟩), (.int .i64 0), (.string ⟨#[]⟩)], .int .i64 4]) (by simp [results, Tryz.results132, go_sem, q0, q1, q2]) rfl ⟨by rw [HN.out]; rfl, hbz⟩
                · have hcast : ((19 : Nat) : Int) = 19 := rfl
                  rw [hcast] at g0' HX6
                  clear hcast
                  by_cases hq : q = []
                  · have HN := hide (show o = .ok (y.data.toList, 19, xv.data.toList) by rw [HX6.out, if_neg (by simpa using hq)])
                    have hql : ¬ (2 : Int) < (nn : Int) := by have := HQ.out; rw [hq] at this; simp at this; omega
                    clear hq
                    obtain ⟨r0, r1, r2, f0, f1, f2⟩ := HD2.out.r.facts
                    go_wp2_with fail
                    go_region
                    all_goals
                      obtain ⟨q0, q1, q2⟩ := HD2.out.r.store (.string y) (.int .i64 19) (.string xv)
                      have hbz := (((HD2.out.below).setCell (p := ⟨w.heap.size + 1, 0, none⟩) (Nat.le_succ _) (.string y)).setCell (p := ⟨w.heap.size + 1, 1, none⟩) (Nat.le_succ _) (.int .i64 19)).setCell (p := ⟨w.heap.size + 1, 2, none⟩) (Nat.le_succ _) (.string xv)
                      obtain ⟨W3, hW3⟩ : ∃ W3, W3 = ((w2.setCell ⟨w.heap.size + 1, 0, none⟩ (.string y)).setCell ⟨w.heap.size + 1, 1, none⟩ (.int .i64 19)).setCell ⟨w.heap.size + 1, 2, none⟩ (.string xv) := ⟨_, rfl⟩
                      rw [← hW3] at q0 q1 q2 hbz ⊢
                      have q0' : W3.drew.cell? ⟨w.heap.size + 1, 0, none⟩ = some (.string y) := q0
                      have q1' : W3.drew.cell? ⟨w.heap.size + 1, 1, none⟩ = some (.int .i64 19) := q1
                      have q2' : W3.drew.cell? ⟨w.heap.size + 1, 2, none⟩ = some (.string xv) := q2
                      clear r0 r1 r2 f0 f1 f2 g0' g1' q0 q1 q2 hW3
                      go_wp2_with fail
                      exact bodyPost_ret (v := .tuple #[.agg #[.string y, .int .i64 19, .string xv], .int .i64 0]) (by simp [results, Tryz.results132, go_sem, q0', q1', q2']) rfl ⟨by rw [HN.out]; rfl, below_drewN hbz 1⟩
                  · have HN := hide (show o = .error 4 by rw [HX6.out, if_pos hq])
                    have hql : (2 : Int) < (nn : Int) := by have := HQ.out; have := List.length_pos_iff.2 hq; omega
                    clear hq
                    obtain ⟨r0, r1, r2, f0, f1, f2⟩ := (HD2.out).r.facts
                    obtain ⟨n0, n1, n2, -, -, -⟩ := (HD2.out).n.facts
                    go_wp2_with fail
                    obtain ⟨q0, q1, q2⟩ := (HD2.out).r.store (.string ⟨#[]⟩) (.int .i64 0) (.string ⟨#[]⟩)
                    have hbz := ((((HD2.out).below).setCell (p := ⟨w.heap.size + 1, 0, none⟩) (Nat.le_succ _) (.string ⟨#[]⟩)).setCell (p := ⟨w.heap.size + 1, 1, none⟩) (Nat.le_succ _) (.int .i64 0)).setCell (p := ⟨w.heap.size + 1, 2, none⟩) (Nat.le_succ _) (.string ⟨#[]⟩)
                    obtain ⟨W3, hW3⟩ : ∃ W3, W3 = ((w2.setCell ⟨w.heap.size + 1, 0, none⟩ (.string ⟨#[]⟩)).setCell ⟨w.heap.size + 1, 1, none⟩ (.int .i64 0)).setCell ⟨w.heap.size + 1, 2, none⟩ (.string ⟨#[]⟩) := ⟨_, rfl⟩
                    rw [← hW3] at q0 q1 q2 hbz ⊢
                    exact bodyPost_ret (v := .tuple #[.agg #[(.string ⟨#[]⟩), (.int .i64 0), (.string ⟨#[]⟩)], .int .i64 4]) (by simp [results, Tryz.results132, go_sem, q0, q1, q2]) rfl ⟨by rw [HN.out]; rfl, hbz⟩
                · have hcast : ((22 : Nat) : Int) = 22 := rfl
                  rw [hcast] at g0' HX6
                  clear hcast
                  by_cases hq : q = []
                  · have HN := hide (show o = .ok (y.data.toList, 22, xv.data.toList) by rw [HX6.out, if_neg (by simpa using hq)])
                    have hql : ¬ (2 : Int) < (nn : Int) := by have := HQ.out; rw [hq] at this; simp at this; omega
                    clear hq
                    obtain ⟨r0, r1, r2, f0, f1, f2⟩ := HD2.out.r.facts
                    go_wp2_with fail
                    go_region
                    all_goals
                      obtain ⟨q0, q1, q2⟩ := HD2.out.r.store (.string y) (.int .i64 22) (.string xv)
                      have hbz := (((HD2.out.below).setCell (p := ⟨w.heap.size + 1, 0, none⟩) (Nat.le_succ _) (.string y)).setCell (p := ⟨w.heap.size + 1, 1, none⟩) (Nat.le_succ _) (.int .i64 22)).setCell (p := ⟨w.heap.size + 1, 2, none⟩) (Nat.le_succ _) (.string xv)
                      obtain ⟨W3, hW3⟩ : ∃ W3, W3 = ((w2.setCell ⟨w.heap.size + 1, 0, none⟩ (.string y)).setCell ⟨w.heap.size + 1, 1, none⟩ (.int .i64 22)).setCell ⟨w.heap.size + 1, 2, none⟩ (.string xv) := ⟨_, rfl⟩
                      rw [← hW3] at q0 q1 q2 hbz ⊢
                      have q0' : W3.drew.cell? ⟨w.heap.size + 1, 0, none⟩ = some (.string y) := q0
                      have q1' : W3.drew.cell? ⟨w.heap.size + 1, 1, none⟩ = some (.int .i64 22) := q1
                      have q2' : W3.drew.cell? ⟨w.heap.size + 1, 2, none⟩ = some (.string xv) := q2
                      clear r0 r1 r2 f0 f1 f2 g0' g1' q0 q1 q2 hW3
                      go_wp2_with fail
                      exact bodyPost_ret (v := .tuple #[.agg #[.string y, .int .i64 22, .string xv], .int .i64 0]) (by simp [results, Tryz.results132, go_sem, q0', q1', q2']) rfl ⟨by rw [HN.out]; rfl, below_drewN hbz 1⟩
                  · have HN := hide (show o = .error 4 by rw [HX6.out, if_pos hq])
                    have hql : (2 : Int) < (nn : Int) := by have := HQ.out; have := List.length_pos_iff.2 hq; omega
                    clear hq
                    obtain ⟨r0, r1, r2, f0, f1, f2⟩ := (HD2.out).r.facts
                    obtain ⟨n0, n1, n2, -, -, -⟩ := (HD2.out).n.facts
                    go_wp2_with fail
                    obtain ⟨q0, q1, q2⟩ := (HD2.out).r.store (.string ⟨#[]⟩) (.int .i64 0) (.string ⟨#[]⟩)
                    have hbz := ((((HD2.out).below).setCell (p := ⟨w.heap.size + 1, 0, none⟩) (Nat.le_succ _) (.string ⟨#[]⟩)).setCell (p := ⟨w.heap.size + 1, 1, none⟩) (Nat.le_succ _) (.int .i64 0)).setCell (p := ⟨w.heap.size + 1, 2, none⟩) (Nat.le_succ _) (.string ⟨#[]⟩)
                    obtain ⟨W3, hW3⟩ : ∃ W3, W3 = ((w2.setCell ⟨w.heap.size + 1, 0, none⟩ (.string ⟨#[]⟩)).setCell ⟨w.heap.size + 1, 1, none⟩ (.int .i64 0)).setCell ⟨w.heap.size + 1, 2, none⟩ (.string ⟨#[]⟩) := ⟨_, rfl⟩
                    rw [← hW3] at q0 q1 q2 hbz ⊢
                    exact bodyPost_ret (v := .tuple #[.agg #[(.string ⟨#[]⟩), (.int .i64 0), (.string ⟨#[]⟩)], .int .i64 4]) (by simp [results, Tryz.results132, go_sem, q0, q1, q2]) rfl ⟨by rw [HN.out]; rfl, hbz⟩
              · have HN := hide (show o = .error 5 by rw [HX5.out, if_pos (by omega)])
                have t12 : ((vt : Int) == 12) = false := beq_false_of_ne (by omega)
                have t19 : ((vt : Int) == 19) = false := beq_false_of_ne (by omega)
                have t22 : ((vt : Int) == 22) = false := beq_false_of_ne (by omega)
                clear hk
                obtain ⟨r0, r1, r2, f0, f1, f2⟩ := (HD2.out).r.facts
                obtain ⟨n0, n1, n2, -, -, -⟩ := (HD2.out).n.facts
                go_wp2_with fail
                obtain ⟨q0, q1, q2⟩ := (HD2.out).r.store (.string ⟨#[]⟩) (.int .i64 0) (.string ⟨#[]⟩)
                have hbz := ((((HD2.out).below).setCell (p := ⟨w.heap.size + 1, 0, none⟩) (Nat.le_succ _) (.string ⟨#[]⟩)).setCell (p := ⟨w.heap.size + 1, 1, none⟩) (Nat.le_succ _) (.int .i64 0)).setCell (p := ⟨w.heap.size + 1, 2, none⟩) (Nat.le_succ _) (.string ⟨#[]⟩)
                obtain ⟨W3, hW3⟩ : ∃ W3, W3 = ((w2.setCell ⟨w.heap.size + 1, 0, none⟩ (.string ⟨#[]⟩)).setCell ⟨w.heap.size + 1, 1, none⟩ (.int .i64 0)).setCell ⟨w.heap.size + 1, 2, none⟩ (.string ⟨#[]⟩) := ⟨_, rfl⟩
                rw [← hW3] at q0 q1 q2 hbz ⊢
                exact bodyPost_ret (v := .tuple #[.agg #[(.string ⟨#[]⟩), (.int .i64 0), (.string ⟨#[]⟩)], .int .i64 5]) (by simp [results, Tryz.results132, go_sem, q0, q1, q2]) rfl ⟨by rw [HN.out]; rfl, hbz⟩
        · have ht6 : ((at_ : Int) != 6) = true := bne_iff_ne.2 (fun e => h6 (Int.ofNat.inj e))
          have HN := hide (show o = .error 5 by rw [HX2.out, decAL, if_pos h6])
          clear h6
          obtain ⟨r0, r1, r2, f0, f1, f2⟩ := (HD1.out).r.facts
          obtain ⟨n0, n1, n2, -, -, -⟩ := (HD1.out).n.facts
          go_wp2_with fail
          obtain ⟨q0, q1, q2⟩ := (HD1.out).r.store (.string ⟨#[]⟩) (.int .i64 0) (.string ⟨#[]⟩)
          have hbz := ((((HD1.out).below).setCell (p := ⟨w.heap.size + 1, 0, none⟩) (Nat.le_succ _) (.string ⟨#[]⟩)).setCell (p := ⟨w.heap.size + 1, 1, none⟩) (Nat.le_succ _) (.int .i64 0)).setCell (p := ⟨w.heap.size + 1, 2, none⟩) (Nat.le_succ _) (.string ⟨#[]⟩)
          obtain ⟨W3, hW3⟩ : ∃ W3, W3 = ((w1.setCell ⟨w.heap.size + 1, 0, none⟩ (.string ⟨#[]⟩)).setCell ⟨w.heap.size + 1, 1, none⟩ (.int .i64 0)).setCell ⟨w.heap.size + 1, 2, none⟩ (.string ⟨#[]⟩) := ⟨_, rfl⟩
          rw [← hW3] at q0 q1 q2 hbz ⊢
          exact bodyPost_ret (v := .tuple #[.agg #[(.string ⟨#[]⟩), (.int .i64 0), (.string ⟨#[]⟩)], .int .i64 5]) (by simp [results, Tryz.results132, go_sem, q0, q1, q2]) rfl ⟨by rw [HN.out]; rfl, hbz⟩
  · have ht : ((t : Int) != 48) = true := bne_iff_ne.2 (fun e => h48 (Int.ofNat.inj e))
    have HN := hide (show o = .error 5 by rw [← HO.out, decA]; simp only; rw [openF, if_pos (by omega)]; rfl)
    clear h48
    obtain ⟨r0, r1, r2, f0, f1, f2⟩ := (HD0.out).r.facts
    obtain ⟨n0, n1, n2, -, -, -⟩ := (HD0.out).n.facts
    go_wp2_with fail
    obtain ⟨q0, q1, q2⟩ := (HD0.out).r.store (.string ⟨#[]⟩) (.int .i64 0) (.string ⟨#[]⟩)
    have hbz := ((((HD0.out).below).setCell (p := ⟨w.heap.size + 1, 0, none⟩) (Nat.le_succ _) (.string ⟨#[]⟩)).setCell (p := ⟨w.heap.size + 1, 1, none⟩) (Nat.le_succ _) (.int .i64 0)).setCell (p := ⟨w.heap.size + 1, 2, none⟩) (Nat.le_succ _) (.string ⟨#[]⟩)
    obtain ⟨W3, hW3⟩ : ∃ W3, W3 = ((W0.setCell ⟨w.heap.size + 1, 0, none⟩ (.string ⟨#[]⟩)).setCell ⟨w.heap.size + 1, 1, none⟩ (.int .i64 0)).setCell ⟨w.heap.size + 1, 2, none⟩ (.string ⟨#[]⟩) := ⟨_, rfl⟩
    rw [← hW3] at q0 q1 q2 hbz ⊢
    exact bodyPost_ret (v := .tuple #[.agg #[(.string ⟨#[]⟩), (.int .i64 0), (.string ⟨#[]⟩)], .int .i64 5]) (by simp [results, Tryz.results132, go_sem, q0, q1, q2]) rfl ⟨by rw [HN.out]; rfl, hbz⟩
end Go.Proofs.YtmgnihmjjijdoaaGreatDoor
namespace Go.Proofs.YtmgnihmjjijdoaaGreatDoor
open Go.RowKit
end Go.Proofs.YtmgnihmjjijdoaaGreatDoor
namespace Go.Proofs.YtmgnihmjjijdoaaGreatDoor
open Go.RowKit
def preE {β : Type} (out : List β) : Except Int (List β) → Except Int (List β)
 | .error k => .error k
 | .ok l => .ok (out ++ l)
theorem preE_nil {β : Type} (o : Except Int (List β)) : preE [] o = o := by cases o <;> rfl
theorem preE_at {α β : Type} {f : α → Except Int β} {L : List α} {k : Nat} (h : k < L.length) {out : List β} {x : β} (he : f L[k] = .ok x) : preE out (mapE f (L.drop k)) = preE (out ++ [x]) (mapE f (L.drop (k + 1))) := by
 rw [List.drop_eq_getElem_cons h, mapE, he]
 cases mapE f (L.drop (k + 1)) <;> simp [preE]
theorem preE_err {α β : Type} {f : α → Except Int β} {L : List α} {k : Nat} (h : k < L.length) {out : List β} {e : Int} (he : f L[k] = .error e) : preE out (mapE f (L.drop k)) = .error e := by
 rw [List.drop_eq_getElem_cons h, mapE, he]
 rfl
theorem mapE_mem {α β : Type} {f : α → Except Int β} : ∀ (L : List α) (l : List β), mapE f L = .ok l → ∀ y ∈ l, ∃ x ∈ L, f x = .ok y
  | [], l, h, y, hy => by cases h; cases hy
  | x :: L, l, h, y, hy => by
    rw [mapE] at h
    cases h1 : f x with
    | error k => rw [h1] at h; cases h
    | ok z =>
      rw [h1] at h
      cases h2 : mapE f L with
      | error k => rw [h2] at h; cases h
      | ok m =>
        rw [h2] at h; cases h
        rcases List.mem_cons.1 hy with rfl | hy
        · exact ⟨x, by simp, h1⟩
        · obtain ⟨x', hx', hf⟩ := mapE_mem L m h2 y hy
          exact ⟨x', by simp [hx'], hf⟩
theorem mapE_err0 {α β : Type} {f : α → Except Int β} (hf : ∀ x, f x ≠ .error 0) : ∀ L : List α, mapE f L ≠ .error 0
  | [], h => by cases h
  | x :: L, h => by
    rw [mapE] at h
    cases h1 : f x with
    | error k =>
      rw [h1] at h
      simp only [Except.error.injEq] at h
      subst h
      exact hf x h1
    | ok z =>
      rw [h1] at h
      cases h2 : mapE f L with
      | error k =>
        rw [h2] at h
        simp only [Except.error.injEq] at h
        subst h
        exact mapE_err0 hf L h2
      | ok m => rw [h2] at h; cases h
theorem openF_err0 {t u : Int} {c : List UInt8} : openF t u c ≠ .error 0 := fun h => by
 unfold openF at h
 split at h
 ·cases h
 ·exact list_err0 _ _ (Nat.le_refl _) h
theorem decA_err0 (e : Elt) : decA e ≠ .error 0 := by
  unfold decA
  cases hL : openF e.1 48 e.2.1 with
  | error k =>
    intro h
    simp only [decAG, Except.error.injEq] at h
    subst h
    exact openF_err0 hL
  | ok l =>
    match l with
    | [] => simp [decAG, decAL]
    | x :: r =>
      rw [decAG, decAL]
      split
      · simp
      · cases decP x.2.1 with
        | none => simp [decAI]
        | some id =>
          match r with
          | [] => simp [decAI, decAV]
          | y :: q =>
            rw [decAI, decAV]
            split
            · simp
            · split <;> simp
theorem joinC_len (c : UInt8) (k : Nat) : ∀ ps : List (List UInt8), (∀ p ∈ ps, p.length ≤ k) → (joinC c ps).length ≤ ps.length * (k + 1)
  | [], _ => by simp [joinC]
  | [p], h => by have := h p (by simp); simp [joinC]; omega
  | p :: q :: r, h => by
    have ih := joinC_len c k (q :: r) (fun x hx => h x (by simp [hx]))
    have := h p (by simp)
    rw [joinC_cons c p (by simp), List.length_append, List.length_cons]
    rw [List.length_cons, Nat.add_mul, Nat.one_mul]
    omega
theorem valid_len {s : List UInt8} (h : validB s = true) : s.length ≤ 1000 := by
  unfold validB at h
  cases ha : arcsP s with
  | none => rw [ha] at h; cases h
  | some l =>
    obtain ⟨_, h12, h3, _⟩ := arcsP_some ha
    rw [arcsP_show ha, showL]
    have := joinC_len 46 11 (l.map decL) (fun p hp => by
      obtain ⟨n, hn, rfl⟩ := List.mem_map.1 hp
      have := decL_len 10 n (by have := h3 n hn; omega)
      omega)
    rw [List.length_map] at this
    omega
theorem decA_small {e : Elt} {a : Attr} (h : decA e = .ok a) : SmallA a := by
  unfold decA at h
  cases hL : openF e.1 48 e.2.1 with
  | error k => rw [hL] at h; cases h
  | ok l =>
    rw [hL] at h
    obtain ⟨_, _, _, hg⟩ := open_ok (t := 48) hL
    match l, h, hg with
    | [], h, _ => cases h
    | x :: r, h, hg =>
      rw [decAG, decAL] at h
      split at h
      · cases h
      · cases hd : decP x.2.1 with
        | none => rw [hd] at h; cases h
        | some id =>
          rw [hd, decAI] at h
          match r, h, hg with
          | [], h, _ => cases h
          | y :: q, h, hg =>
            rw [decAV] at h
            split at h
            · cases h
            · split at h
              · cases h
              · cases h
                have hv := (enc_decP hd).1
                refine ⟨?_, (hg y (by simp)).2.2.1⟩
                exact Nat.le_trans (valid_len hv) (by omega)
def relRes (w : World) : Except Int (List Attr) → Ending → World → Prop
 | .error k, e, _ => e = .returned (.tuple #[.slice none 0 0, .int .i64 k])
 | .ok l, e, w' => ∃ A c, e = .returned (.tuple #[.slice A l.length c, .int .i64 0]) ∧ Sl RAttr 3 w' (Btw w.heap.size w'.heap.size) l [.slice A l.length c]
def RelPost (w : World) (o : Except Int (List Attr)) (e : Ending) (w' : World) : Prop := Below w.heap.size w w' ∧ relRes w o e w'
theorem RelPost.err {w w' : World} {o : Except Int (List Attr)} {k : Int} (h : o = .error k) (hb : Below w.heap.size w w') : RelPost w o (.returned (.tuple #[.slice none 0 0, .int .i64 k])) w' := by
 subst h; exact ⟨hb, rfl⟩
theorem RelPost.ok {w w' : World} {o : Except Int (List Attr)} {l : List Attr} {A : Option Addr} {n c : Nat} (h : o = .ok l) (hb : Below w.heap.size w w') (hs : Sl RAttr 3 w' (Btw w.heap.size w'.heap.size) l [.slice A n c]) : RelPost w o (.returned (.tuple #[.slice A n c, .int .i64 0])) w' := by
 subst h
 obtain ⟨rfl, _⟩ := hs.len_
 exact ⟨hb, A, c, rfl, hs⟩
theorem news_at3 (w : World) (S : Nat → Prop) (t : TypeId) (k : Int) (x1 x2 : ByteArray) :
  ∀ i y, [((x1.data.toList, k, x2.data.toList) : Attr)][i]? = some y → ∃ cs, RAttr (w.alloc (.cells #[.string x1, .int .i64 k, .string x2] t)) S y cs ∧ ∀ j u, cs[j]? = some u → (w.alloc (.cells #[.string x1, .int .i64 k, .string x2] t)).cell? ((⟨w.heap.size, 0, none⟩ : Addr).add (i * 3 + j)) = some u :=
 news_pu (f := attC) (size := 3) (fun _ => rfl) w S _ t _ rfl
theorem outlen {L : List Elt} {out : List Attr} {k : Nat} (h : out.length = k) (hk : k ≤ L.length) (hL : L.length ≤ 131072) : out.length ≤ 131072 := by omega
set_option maxRecDepth 100000 in
set_option maxHeartbeats 16000000 in
theorem decRel_any (t : Nat) (c raw : ByteArray) (hc : c.size ≤ 131072) (w : World) (htb : Tb w) :
    Calls Tryz.prog 89 #[.agg #[.int .i64 (t : Int), .string c, .string raw]] w (RelPost w (decR (t, c.data.toList, raw.data.toList))) := by
  obtain ⟨r, hr⟩ : ∃ r, decR (t, c.data.toList, raw.data.toList) = r := ⟨_, rfl⟩
  rw [hr]
  have HRR := hide hr
  have HTB := hide htb
  clear hr htb
  obtain ⟨W0, hW0⟩ : ∃ W, W = w.alloc (.cells #[.int .i64 (t : Int), .string c, .string raw] 45) := ⟨_, rfl⟩
  have n0 : W0.cell? ⟨w.heap.size, 0, none⟩ = some (.int .i64 (t : Int)) := by rw [hW0, World.cell?_alloc_new]; rfl
  have n1 : W0.cell? ⟨w.heap.size, 1, none⟩ = some (.string c) := by rw [hW0, World.cell?_alloc_new]; rfl
  have HBA := hide (show Below w.heap.size w W0 by rw [hW0]; exact (Below.refl _ _).alloc (Nat.le_refl _) _)
  go_enter Tryz.func89, Tryz.ntmps89
  go_upto_region 1 with fail
  rw [← hW0]
  clear hW0
  by_cases h49 : t = 49
  · have ht : ((t : Int) != 49) = false := by rw [h49]; rfl
    obtain ⟨ol, hol⟩ : ∃ o, listF c.data.toList = o := ⟨_, rfl⟩
    have HR0 := hide (show r = decRG ol by rw [← HRR.out, decR]; simp only; rw [openF, if_neg (by omega), hol])
    have HOL := hide hol
    clear h49 hol
    go_wp2_with fail
    refine (List_any c (by omega) _).mono ?_
    rintro e wL ⟨hbL, hres⟩
    rw [HOL.out] at hres
    have HBL := hide (HBA.out.trans (hbL.mono HBA.out.size))
    have hzA := HBA.out.size
    clear hbL n0 n1
    cases ol with
    | error k =>
      obtain rfl : e = _ := hres
      have hk : k ≠ 0 := fun h => list_err0 _ _ (Nat.le_refl _) (h ▸ HOL.out)
      have ht2 : (k != 0) = true := by simpa using hk
      have HY := hide (show r = .error k from HR0.out)
      clear hk
      go_wp2_with fail
      go_ret2
      exact RelPost.err HY.out HBL.out
    | ok L =>
      obtain ⟨A, cp, rfl, hsl⟩ := hres
      obtain ⟨-, hlc, hcm⟩ := hsl.len_
      unfold maxLen at hcm
      have hL := list_len _ _ _ (Nat.le_refl _) HOL.out
      rw [size_string] at hL
      have hL : L.length ≤ 131072 := Nat.le_trans hL hc
      have HMM := hide (fun e (he : e ∈ L) => (list_is_wrap _ _ _ (Nat.le_refl _) HOL.out e he).2.2.1)
      have HML := hide (fun (k : Nat) (h : k < L.length) => HMM.out L[k] (List.getElem_mem h))
      have HSL0 := hide hsl
      have HR := hide (show r = decRL L from HR0.out)
      obtain ⟨q, hq⟩ : ∃ q, ascB L = q := ⟨_, rfl⟩
      have HASC := hide (hq ▸ Asc_any L A cp wL ((Sl.ok RElt.ok).mono hsl (fun _ _ => rfl) (fun _ hj => hj.2)))
      have HQ := hide hq
      clear hsl ht hq
      go_wp2_with fail
      refine HASC.out.mono ?_
      rintro e wM ⟨rfl, hbM⟩
      have HSL := hide ((Sl.ok RElt.ok).mono HSL0.out (fun j hj => hbM.block j hj.2) (S' := Btw W0.heap.size wM.heap.size) (fun j hj => ⟨hj.1, Nat.lt_of_lt_of_le hj.2 hbM.size⟩))
      have HBLo := HBL
      have HBL := hide (HBLo.out.trans (hbM.mono HBLo.out.size))
      clear hbM
      cases q with
      | false =>
        have HY := hide (show r = .error 9 by rw [HR.out, decRL, if_pos HQ.out])
        go_wp2_with fail
        go_ret2
        exact RelPost.err HY.out HBL.out
      | true =>
        have HRM := hide (show r = mapE decA L by rw [HR.out, decRL, if_neg (by rw [HQ.out]; simp)])
        have H0 := hide (show mapE decA L = preE [] (mapE decA (L.drop 0)) by rw [List.drop_zero, preE_nil])
        obtain ⟨base, hbase⟩ : ∃ b, b = wM.heap.size := ⟨_, rfl⟩
        have HBASE := hide hbase
        have hgs0 : base ≤ wM.heap.size := by omega
        clear hbase
        go_wp2_with fail
        go_loopw [6, 28] (fun v i wr => ∃ (k : Nat) (out : List Attr), k ≤ L.length ∧ i = .int .i64 k ∧ out.length = k ∧ Own RAttr 3 84 wr base No v out ∧ Below wM.heap.size wM wr ∧ base ≤ wr.heap.size ∧ Hid (mapE decA L = preE out (mapE decA (L.drop k)))) (fun _ i _ => L.length - (intOf i).toNat)
        case atStart => exact ⟨0, [], by omega, rfl, by simp, Own.nil _ _ _ _ _ _, Below.refl _ _, hgs0, H0⟩
        case round =>
          obtain ⟨k, out, hk, rfl, hol, hown, hb, hgs, H⟩ := hrel
          have HB := hide hb
          have HOWN := hide hown
          have hbase := HBASE.out
          have hzb := HBL.out.size
          clear hb
          by_cases hlt : k < L.length
          · obtain ⟨b, off, hA, hbS, e0, e1, e2⟩ := HSL.out.eltAt hlt
            subst hA
            have hcl := HML.out k hlt
            have HPS := hide (fun (x : Attr) (h : decA L[k] = .ok x) => H.out.trans (preE_at hlt h))
            have HPN := hide (fun (e : Int) (h : decA L[k] = .error e) => H.out.trans (preE_err hlt h))
            obtain ⟨⟨et, ec, er⟩, hel⟩ : ∃ e, L[k] = e := ⟨_, rfl⟩
            rw [hel] at e0 e1 e2 hcl HPS HPN
            simp only at e0 e1 e2 hcl
            obtain ⟨z1, hz1⟩ : ∃ x : ByteArray, x = ⟨ec.toArray⟩ := ⟨_, rfl⟩
            obtain ⟨z2, hz2⟩ : ∃ x : ByteArray, x = ⟨er.toArray⟩ := ⟨_, rfl⟩
            have hz1d : ec = z1.data.toList := by rw [hz1]
            have hz2d : er = z2.data.toList := by rw [hz2]
            rw [← hz1] at e1
            rw [← hz2] at e2
            rw [hz1d] at hcl
            rw [size_string] at hcl
            rw [hz1d, hz2d] at HPS HPN
            obtain ⟨o, ho⟩ : ∃ o, decA (et, z1.data.toList, z2.data.toList) = o := ⟨_, rfl⟩
            rw [ho] at HPS HPN
            have HO := hide ho
            have p0 := (HB.out.cell (p := ⟨b, off + k * 3, none⟩) hbS.2).trans e0
            have p1 := (HB.out.cell (p := ⟨b, off + k * 3 + 1, none⟩) hbS.2).trans e1
            have p2 := (HB.out.cell (p := ⟨b, off + k * 3 + 2, none⟩) hbS.2).trans e2
            have hol2 := outlen hol hk hL
            have HOLK := hide hol
            obtain ⟨A2, cp2, hv⟩ := (hown.sl RAttr.ok).shape
            subst hv
            clear e0 e1 e2 hz1 hz2 hel hz1d hz2d ho hown hol
            obtain ⟨wo, rfl⟩ : ∃ wo : World, wo = wr := ⟨_, rfl⟩
            go_upto_region 12 with fail
            obtain ⟨wB, hwB⟩ : ∃ W, W = wo.alloc (.cells #[.int .i64 (et : Int), .string z1, .string z2] 45) := ⟨_, rfl⟩
            have q0 : wB.cell? ⟨wo.heap.size, 0, none⟩ = some (.int .i64 (et : Int)) := by rw [hwB, World.cell?_alloc_new]; rfl
            have q1 : wB.cell? ⟨wo.heap.size, 1, none⟩ = some (.string z1) := by rw [hwB, World.cell?_alloc_new]; rfl
            have q2 : wB.cell? ⟨wo.heap.size, 2, none⟩ = some (.string z2) := by rw [hwB, World.cell?_alloc_new]; rfl
            have hbB : Below wo.heap.size wo wB := by rw [hwB]; exact (Below.refl _ _).alloc (Nat.le_refl _) _
            have HBB := hide (HB.out.trans (hbB.mono HB.out.size))
            have HOB := hide (HOWN.out.below RAttr.ok (no_lt _) hbB)
            have hzB := hbB.size
            rw [← hwB]
            clear hwB p0 p1 p2 hbB
            obtain ⟨gx, hgx⟩ : ∃ g, wo.heap.size = g := ⟨_, rfl⟩
            rw [hgx] at q0 q1 q2 ⊢
            clear hgx
            go_wp2_with fail
            refine (decAttr_any et z1 z2 hcl _ (HTB.out.below (HBL.out.trans (HBB.out.mono HBL.out.size)))).mono ?_
            rintro e w5 ⟨rfl, hb5⟩
            rw [HO.out]
            have HB5 := hide (HBB.out.trans (hb5.mono HBB.out.size))
            have HO5 := hide (HOB.out.below RAttr.ok (no_lt _) hb5)
            have hz5 := hb5.size
            clear hb5 q0 q1 q2
            cases o with
            | error k9 =>
              have hk9 : k9 ≠ 0 := fun h => decA_err0 _ (h ▸ HO.out)
              have ht : (k9 != 0) = true := by simpa using hk9
              have HN := hide (show mapE decA L = .error k9 from HPN.out k9 rfl)
              rw [show decAR (.error k9) = .tuple #[.agg #[.string ⟨#[]⟩, .int .i64 0, .string ⟨#[]⟩], .int .i64 k9] from rfl]
              clear hk9
              have HY := hide (show r = .error k9 by rw [HRM.out, HN.out])
              go_wp2_with fail
              go_ret2
              exact RelPost.err HY.out ((HBL.out.trans (HB5.out.mono HBL.out.size)).alloc (by omega) _)
            | ok x =>
              obtain ⟨id, kd, va⟩ := x
              obtain ⟨x1, hx1⟩ : ∃ x : ByteArray, x = ⟨id.toArray⟩ := ⟨_, rfl⟩
              obtain ⟨x2, hx2⟩ : ∃ x : ByteArray, x = ⟨va.toArray⟩ := ⟨_, rfl⟩
              have hid : id = x1.data.toList := by rw [hx1]
              have hva : va = x2.data.toList := by rw [hx2]
              have HY := hide (show mapE decA L = preE (out ++ [(x1.data.toList, kd, x2.data.toList)]) (mapE decA (L.drop (k + 1))) by rw [HPS.out _ rfl, hid, hva])
              rw [show decAR (.ok (id, kd, va)) = .tuple #[.agg #[.string x1, .int .i64 kd, .string x2], .int .i64 0] by rw [decAR, hx1, hx2]]
              clear hx1 hx2 hid hva
              go_upto_region 13 with fail
              obtain ⟨wC, hwC⟩ : ∃ W, W = w5.alloc (.cells #[.string x1, .int .i64 kd, .string x2] 84) := ⟨_, rfl⟩
              have s0 : wC.cell? ⟨w5.heap.size, 0, none⟩ = some (.string x1) := by rw [hwC, World.cell?_alloc_new]; rfl
              have s1 : wC.cell? ⟨w5.heap.size, 1, none⟩ = some (.int .i64 kd) := by rw [hwC, World.cell?_alloc_new]; rfl
              have s2 : wC.cell? ⟨w5.heap.size, 2, none⟩ = some (.string x2) := by rw [hwC, World.cell?_alloc_new]; rfl
              have hbC : Below w5.heap.size w5 wC := by rw [hwC]; exact (Below.refl _ _).alloc (Nat.le_refl _) _
              have HBC := hide (HB5.out.trans (hbC.mono HB5.out.size))
              have HOC := hide (HO5.out.below RAttr.ok (no_lt _) hbC)
              have hzC := hbC.size
              rw [← hwC]
              clear hwC hbC
              obtain ⟨gy, hgy⟩ : ∃ g, w5.heap.size = g := ⟨_, rfl⟩
              rw [hgy] at s0 s1 s2 ⊢
              clear hgy
              go_wp2_with (at_builtin; refine wpList_app RAttr.ok _ rfl (.tmp 40) (.tmp 42) 82 rfl base 84 (.agg #[.string ⟨#[]⟩, .int .i64 0, .string ⟨#[]⟩]) 40 Tryz.underlying82 info_att rfl (by decide) No _ out rfl (HOC.out.alloc RAttr.ok (no_lt _) _) ⟨_, 0, none⟩ 1 1 [(x1.data.toList, kd, x2.data.toList)] rfl rfl (news_at3 _ _ _ kd x1 x2) (no_lt _) (by simp; omega) (by simp [maxLen]; omega) (by simp; omega) ?_; intro v2 w2 hown2 hg2 hb2 hat2; have hsz2 := hb2.size; simp at hsz2)
              go_roundw
              case rel => exact ⟨k + 1, _, by omega, by go_num, by simp [HOLK.out], hown2, (HBC.out.alloc HBC.out.size _).trans (hb2.mono (by omega)), by omega, HY⟩
              case measure => simp [intOf]; omega
          · have HD := hide (show r = .ok out by rw [HRM.out, H.out, List.drop_of_length_le (by omega)]; simp [preE, mapE])
            have hsl := (Sl.ok RAttr.ok).mono (HOWN.out.sl RAttr.ok) (S' := Btw w.heap.size wr.heap.size) (fun _ _ => rfl) (fun j hj => by rcases hj with hj | hj; exact hj.elim; exact ⟨by omega, hj.2⟩)
            obtain ⟨A2, cp2, hv⟩ := hsl.shape
            subst hv
            have HSLO := hide hsl
            have HBW := hide (HBL.out.trans (HB.out.mono HBL.out.size))
            clear hsl hown
            go_wp2_with fail
            go_ret2
            exact RelPost.ok HD.out HBW.out HSLO.out
  · have ht : ((t : Int) != 49) = true := bne_iff_ne.2 (fun e => h49 (Int.ofNat.inj e))
    have HY := hide (show r = .error 5 by rw [← HRR.out, decR]; simp only; rw [openF, if_pos (by omega)]; rfl)
    clear h49
    go_wp2_with fail
    go_ret2
    exact RelPost.err HY.out HBA.out
end Go.Proofs.YtmgnihmjjijdoaaGreatDoor
