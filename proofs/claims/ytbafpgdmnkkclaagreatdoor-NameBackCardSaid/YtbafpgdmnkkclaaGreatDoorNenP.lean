/- Names, plain: what Encode writes, what Decode reads, and that each inverts the other. -/
import Derived.Test.YtbafpgdmnkkclaaGreatDoorTlv3
import Derived.Test.YtbafpgdmnkkclaaGreatDoorNamA
namespace Go.Proofs.YtbafpgdmnkkclaaGreatDoor
open Go.RowKit

def leL (x y : List UInt8) : Bool := decide (x ≤ y)
/-- texts in ascending order -/
def ordF (l : List (List UInt8)) : List (List UInt8) := l.mergeSort leL
def encA (a : Attr) : List UInt8 := wrapW 48 (idW a.1 ++ wrapW a.2.1.toNat a.2.2)
def encQ (r : List Attr) : List UInt8 := wrapW 49 (ordF (r.map encA)).flatten
def encB (n : Name) : List UInt8 := wrapW 48 (n.flatMap encQ)
def encN (n : Name) : List UInt8 × Int := if chkN n = 0 then (encB n, 0) else ([], chkN n)
def sortR (r : List Attr) : List Attr := r.mergeSort fun a b => leL (encA a) (encA b)

def mapE {α β : Type} (f : α → Except Int β) : List α → Except Int (List β)
  | [] => .ok []
  | x :: r => match f x with
    | .error k => .error k
    | .ok y => match mapE f r with
      | .error k => .error k
      | .ok l => .ok (y :: l)
def decAV (id : List UInt8) : List Elt → Except Int Attr
  | [] => .error 3
  | y :: q => if y.1 ≠ 12 ∧ y.1 ≠ 19 ∧ y.1 ≠ 22 then .error 5 else if q ≠ [] then .error 4 else .ok (id, (y.1 : Int), y.2.1)
def decAI (r : List Elt) : Option (List UInt8) → Except Int Attr
  | none => .error 11
  | some id => decAV id r
def decAL : List Elt → Except Int Attr
  | [] => .error 3
  | x :: r => if x.1 ≠ 6 then .error 5 else decAI r (decP x.2.1)
def decAG : Except Int (List Elt) → Except Int Attr
  | .error k => .error k
  | .ok l => decAL l
def decA (e : Elt) : Except Int Attr := decAG (openF e.1 48 e.2.1)
/-- no element's text is less than that of the one before it -/
def ascB : List Elt → Bool
  | [] => true
  | [_] => true
  | a :: b :: r => leL a.2.2 b.2.2 && ascB (b :: r)
def decRL (l : List Elt) : Except Int (List Attr) := if ascB l = false then .error 9 else mapE decA l
def decRG : Except Int (List Elt) → Except Int (List Attr)
  | .error k => .error k
  | .ok l => decRL l
def decR (e : Elt) : Except Int (List Attr) := decRG (openF e.1 49 e.2.1)
def decNF : Except Int Name → Except Int Name
  | .error k => .error k
  | .ok n => if chkN n = 0 then .ok n else .error (chkN n)
def decNG : Except Int (List Elt) → Except Int Name
  | .error k => .error k
  | .ok l => decNF (mapE decR l)
def decNO : Except Int Elt → Except Int Name
  | .error k => .error k
  | .ok e => decNG (openF e.1 48 e.2.1)
def decN (b : List UInt8) : Except Int Name := decNO (oneF b)

/-! ### what Check asks -/
def okA (a : Attr) : Prop := validB a.1 = true ∧ a.2.2 ≠ [] ∧ validT a.2.1 a.2.2 = true ∧ a.2.2.length ≤ 64
theorem chkA_iff : ∀ (r pre : List Attr), chkA pre r = 0 ↔ (∀ a ∈ r, okA a) ∧ (∀ a ∈ r, ∀ b ∈ pre, b.1 ≠ a.1) ∧ r.Pairwise (fun a b => a.1 ≠ b.1)
  | [], pre => by simp [chkA]
  | a :: r, pre => by
    have ih := chkA_iff r (pre ++ [a])
    rw [chkA]
    by_cases h1 : validB a.1 = false
    · rw [if_pos h1]
      refine ⟨fun h => (by cases h), fun h => ?_⟩
      have := (h.1 a (by simp)).1
      rw [h1] at this; cases this
    rw [if_neg h1]
    by_cases h2 : a.2.2 = [] ∨ validT a.2.1 a.2.2 = false
    · rw [if_pos h2]
      refine ⟨fun h => (by cases h), fun h => ?_⟩
      have := h.1 a (by simp)
      rcases h2 with h2 | h2
      · exact absurd h2 this.2.1
      · have h3 := this.2.2.1
        rw [h2] at h3; cases h3
    rw [if_neg h2]
    by_cases h3 : 64 < a.2.2.length
    · rw [if_pos h3]
      refine ⟨fun h => (by cases h), fun h => ?_⟩
      have := (h.1 a (by simp)).2.2.2
      omega
    rw [if_neg h3]
    by_cases h4 : pre.any (fun b => b.1 == a.1) = true
    · rw [if_pos h4]
      refine ⟨fun h => (by cases h), fun h => ?_⟩
      obtain ⟨b, hb, he⟩ := List.any_eq_true.1 h4
      exact absurd (by simpa using he) (h.2.1 a (by simp) b hb)
    rw [if_neg h4, ih]
    have hok : okA a := ⟨by simpa using h1, fun e => h2 (.inl e), by
      cases hv : validT a.2.1 a.2.2 with
      | true => rfl
      | false => exact absurd (.inr hv) h2, by omega⟩
    have hpre : ∀ b ∈ pre, b.1 ≠ a.1 := fun b hb he => h4 (List.any_eq_true.2 ⟨b, hb, by simpa using he⟩)
    simp only [List.mem_cons, List.mem_append, List.not_mem_nil, or_false, List.pairwise_cons]
    constructor
    · rintro ⟨g1, g2, g3⟩
      refine ⟨?_, ?_, ?_, g3⟩
      · rintro x (rfl | hx)
        · exact hok
        · exact g1 x hx
      · rintro x (rfl | hx) b hb
        · exact hpre b hb
        · exact g2 x hx b (.inl hb)
      · intro x hx
        exact g2 x hx a (.inr rfl)
    · rintro ⟨g1, g2, g3, g4⟩
      refine ⟨fun x hx => g1 x (.inr hx), ?_, g4⟩
      rintro x hx b (hb | rfl)
      · exact g2 x (.inr hx) b hb
      · exact g3 x hx
def okR (r : List Attr) : Prop := r.length ≠ 0 ∧ r.length ≤ 4 ∧ (∀ a ∈ r, okA a) ∧ r.Pairwise (fun a b => a.1 ≠ b.1)
theorem chkR_iff (r : List Attr) : chkR r = 0 ↔ okR r := by
  unfold chkR okR
  by_cases h1 : r.length = 0
  · rw [if_pos h1]
    exact ⟨fun h => (by cases h), fun h => absurd h1 h.1⟩
  rw [if_neg h1]
  by_cases h2 : 4 < r.length
  · rw [if_pos h2]
    exact ⟨fun h => (by cases h), fun h => by have := h.2.1; omega⟩
  rw [if_neg h2, chkA_iff]
  constructor
  · rintro ⟨g1, _, g3⟩
    exact ⟨h1, by omega, g1, g3⟩
  · rintro ⟨_, _, g1, g3⟩
    exact ⟨g1, fun a _ b hb => (by cases hb), g3⟩
theorem chkRs_iff : ∀ n : Name, chkRs n = 0 ↔ ∀ r ∈ n, okR r
  | [] => by simp [chkRs]
  | r :: n => by
    have ih := chkRs_iff n
    rw [chkRs]
    by_cases h : chkR r = 0
    · rw [if_pos h, ih]
      have := (chkR_iff r).1 h
      simp [this]
    · rw [if_neg h]
      exact ⟨fun k => absurd k h, fun k => absurd ((chkR_iff r).2 (k r (by simp))) h⟩
theorem chkN_iff (n : Name) : chkN n = 0 ↔ n.length ≤ 8 ∧ ∀ r ∈ n, okR r := by
  unfold chkN
  by_cases h : 8 < n.length
  · rw [if_pos h]
    exact ⟨fun k => (by cases k), fun k => by have := k.1; omega⟩
  · rw [if_neg h, chkRs_iff]
    exact ⟨fun k => ⟨by omega, k⟩, fun k => k.2⟩
theorem okR_perm {r s : List Attr} (h : r.Perm s) (k : okR r) : okR s := by
  obtain ⟨k1, k2, k3, k4⟩ := k
  refine ⟨by rw [← h.length_eq]; exact k1, by rw [← h.length_eq]; exact k2, fun a ha => k3 a (h.mem_iff.2 ha), ?_⟩
  exact (h.pairwise_iff (fun {x y} (e : x.1 ≠ y.1) => Ne.symm e)).1 k4
theorem okA_kind {a : Attr} (h : okA a) : (a.2.1 = 12 ∨ a.2.1 = 19 ∨ a.2.1 = 22) := by
  have := h.2.2.1
  unfold validT at this
  split at this
  · rename_i e; exact .inl e
  · split at this
    · rename_i e; exact .inr (.inl e)
    · split at this
      · rename_i e; exact .inr (.inr e)
      · cases this

/-! ### orders -/
theorem leL_trans (a b c : List UInt8) (h1 : leL a b = true) (h2 : leL b c = true) : leL a c = true := by
  unfold leL at *
  rw [decide_eq_true_eq] at *
  exact List.le_trans h1 h2
theorem leL_total (a b : List UInt8) : (leL a b || leL b a) = true := by
  unfold leL
  rw [Bool.or_eq_true, decide_eq_true_eq, decide_eq_true_eq]
  exact List.le_total a b
theorem leL_anti {a b : List UInt8} (h1 : leL a b = true) (h2 : leL b a = true) : a = b := by
  unfold leL at *
  rw [decide_eq_true_eq] at *
  exact List.le_antisymm h1 h2
theorem ordF_perm (l : List (List UInt8)) : (ordF l).Perm l := List.mergeSort_perm l _
theorem sortR_perm (r : List Attr) : (sortR r).Perm r := List.mergeSort_perm r _
theorem sortR_map (r : List Attr) : (sortR r).map encA = ordF (r.map encA) :=
  List.map_mergeSort (fun _ _ _ _ => rfl)
theorem asc_pair : ∀ l : List Elt, ascB l = true ↔ (l.map (·.2.2)).Pairwise (fun a b => leL a b = true)
  | [] => by simp [ascB]
  | [a] => by simp [ascB]
  | a :: b :: r => by
    have ih := asc_pair (b :: r)
    rw [ascB, Bool.and_eq_true, ih]
    simp only [List.map_cons, List.pairwise_cons, List.mem_cons]
    constructor
    · rintro ⟨h1, h2, h3⟩
      refine ⟨?_, h2, h3⟩
      rintro x (rfl | hx)
      · exact h1
      · exact leL_trans _ _ _ h1 (h2 x hx)
    · rintro ⟨h1, h2, h3⟩
      exact ⟨h1 _ (.inl rfl), h2, h3⟩
theorem ordF_sorted {l : List (List UInt8)} (h : l.Pairwise (fun a b => leL a b = true)) : ordF l = l := List.mergeSort_of_pairwise h
theorem ordF_pair (l : List (List UInt8)) : (ordF l).Pairwise (fun a b => leL a b = true) := List.pairwise_mergeSort leL_trans leL_total l

/-! ### Decode inverts Encode -/
def bodyA (a : Attr) : List UInt8 := idW a.1 ++ wrapW a.2.1.toNat a.2.2
def eltA (a : Attr) : Elt := (48, bodyA a, encA a)
theorem kind_nat {a : Attr} (h : okA a) : a.2.1.toNat < 256 ∧ a.2.1.toNat % 32 ≠ 31 ∧ ((a.2.1.toNat : Nat) : Int) = a.2.1 := by
  rcases okA_kind h with e | e | e <;> rw [e] <;> refine ⟨by decide, by decide, rfl⟩
theorem bodyA_len {a : Attr} (h : okA a) : (bodyA a).length ≤ 1080 := by
  obtain ⟨c, hc, hcl⟩ := encP_valid h.1
  have h64 := h.2.2.2
  rw [bodyA, idW, hc, List.length_append, wrapW_len, wrapW_len, Option.getD_some]
  have := lenB_le c.length
  have := lenB_le a.2.2.length
  omega
theorem encA_len {a : Attr} (h : okA a) : (encA a).length ≤ 1085 := by
  have := bodyA_len h
  show (wrapW 48 (bodyA a)).length ≤ _
  rw [wrapW_len]
  have := lenB_le (bodyA a).length
  omega
theorem decA_elt {a : Attr} (h : okA a) : decA (eltA a) = .ok a := by
  obtain ⟨c, hc, hcl⟩ := encP_valid h.1
  obtain ⟨k1, k2, k3⟩ := kind_nat h
  have h64 := h.2.2.2
  have h2 := list_wrap a.2.1.toNat k1 k2 a.2.2 [] (by omega)
  rw [List.append_nil, listF_nil] at h2
  have h1 := list_wrap 6 (by omega) (by omega) c (wrapW a.2.1.toNat a.2.2) (by omega)
  rw [h2] at h1
  have h0 : openF (48 : Nat) 48 (bodyA a) = .ok [(6, c, wrapW 6 c), (a.2.1.toNat, a.2.2, wrapW a.2.1.toNat a.2.2)] := by
    rw [openF, if_neg (by simp), bodyA, idW, hc, Option.getD_some, h1]
  rw [decA, eltA]
  simp only
  rw [h0, decAG, decAL, if_neg (by simp), dec_enc hc, decAI, decAV]
  have hkk : ¬ (a.2.1.toNat ≠ 12 ∧ a.2.1.toNat ≠ 19 ∧ a.2.1.toNat ≠ 22) := by
    rcases okA_kind h with e | e | e <;> rw [e] <;> simp
  simp only
  rw [if_neg hkk, if_neg (by simp), k3]
theorem list_encA : ∀ l : List Attr, (∀ a ∈ l, okA a) → listF (l.map encA).flatten = .ok (l.map eltA)
  | [], _ => rfl
  | a :: l, h => by
    have ih := list_encA l (fun x hx => h x (by simp [hx]))
    have ha := h a (by simp)
    have := bodyA_len ha
    have h1 := list_wrap 48 (by omega) (by omega) (bodyA a) (l.map encA).flatten (by omega)
    rw [ih] at h1
    rw [List.map_cons, List.flatten_cons, List.map_cons]
    exact h1
theorem mapE_ok {α β : Type} {f : α → Except Int β} {g : β → α} : ∀ l : List β, (∀ x ∈ l, f (g x) = .ok x) → mapE f (l.map g) = .ok l
  | [], _ => rfl
  | x :: l, h => by
    rw [List.map_cons, mapE, h x (by simp), mapE_ok l (fun y hy => h y (by simp [hy]))]
theorem flat_len (k : Nat) : ∀ l : List (List UInt8), (∀ x ∈ l, x.length ≤ k) → l.flatten.length ≤ l.length * k
  | [], _ => by simp
  | x :: l, h => by
    have ih := flat_len k l (fun y hy => h y (by simp [hy]))
    have := h x (by simp)
    rw [List.flatten_cons, List.length_append, List.length_cons, Nat.add_mul, Nat.one_mul]
    omega
theorem ord_len {r : List Attr} (h : okR r) : (ordF (r.map encA)).flatten.length ≤ 4340 := by
  have h4 := h.2.1
  have h1 := flat_len 1085 (ordF (r.map encA)) (fun x hx => by
    obtain ⟨a, ha, rfl⟩ := List.mem_map.1 ((ordF_perm _).mem_iff.1 hx)
    exact encA_len (h.2.2.1 a ha))
  have h2 : (ordF (r.map encA)).length = r.length := by rw [(ordF_perm _).length_eq, List.length_map]
  rw [h2] at h1
  have := Nat.mul_le_mul_right 1085 h4
  omega
theorem encQ_len {r : List Attr} (h : okR r) : (encQ r).length ≤ 4345 := by
  have := ord_len h
  rw [encQ, wrapW_len]
  have := lenB_le (ordF (r.map encA)).flatten.length
  omega
def eltR (r : List Attr) : Elt := (49, (ordF (r.map encA)).flatten, encQ r)
theorem decR_elt {r : List Attr} (h : okR r) : decR (eltR r) = .ok (sortR r) := by
  have hs : okR (sortR r) := okR_perm (sortR_perm r).symm h
  have h1 := list_encA (sortR r) hs.2.2.1
  rw [sortR_map] at h1
  rw [decR, eltR]
  simp only
  rw [openF, if_neg (by simp), h1, decRG, decRL]
  have h2 : ascB ((sortR r).map eltA) = true := by
    rw [asc_pair, List.map_map]
    have e : (sortR r).map ((fun x : Elt => x.2.2) ∘ eltA) = ordF (r.map encA) := by rw [← sortR_map]; rfl
    rw [e]
    exact ordF_pair _
  rw [h2, if_neg (by simp)]
  exact mapE_ok _ (fun x hx => decA_elt (hs.2.2.1 x hx))
theorem list_encQ : ∀ n : Name, (∀ r ∈ n, okR r) → listF (n.flatMap encQ) = .ok (n.map eltR)
  | [], _ => rfl
  | r :: n, h => by
    have ih := list_encQ n (fun x hx => h x (by simp [hx]))
    have hr := ord_len (h r (by simp))
    have h1 := list_wrap 49 (by omega) (by omega) (ordF (r.map encA)).flatten (n.flatMap encQ) (by omega)
    rw [ih] at h1
    rw [List.flatMap_cons, List.map_cons]
    exact h1
theorem mapE_sort : ∀ n : Name, (∀ r ∈ n, okR r) → mapE decR (n.map eltR) = .ok (n.map sortR)
  | [], _ => rfl
  | r :: n, h => by
    rw [List.map_cons, mapE, decR_elt (h r (by simp)), mapE_sort n (fun y hy => h y (by simp [hy])), List.map_cons]
theorem chkN_sort {n : Name} (h : chkN n = 0) : chkN (n.map sortR) = 0 := by
  rw [chkN_iff] at *
  refine ⟨by rw [List.length_map]; exact h.1, fun s hs => ?_⟩
  obtain ⟨r, hr, rfl⟩ := List.mem_map.1 hs
  exact okR_perm (sortR_perm r).symm (h.2 r hr)
theorem encB_len {n : Name} (h : chkN n = 0) : (n.flatMap encQ).length ≤ 34760 := by
  obtain ⟨h8, hr⟩ := (chkN_iff n).1 h
  have h1 := flat_len 4345 (n.map encQ) (fun x hx => by
    obtain ⟨r, hr', rfl⟩ := List.mem_map.1 hx
    exact encQ_len (hr r hr'))
  rw [List.length_map] at h1
  have := Nat.mul_le_mul_right 4345 h8
  rw [List.flatMap_def]
  omega
theorem decN_enc {n : Name} (h : chkN n = 0) : decN (encB n) = .ok (n.map sortR) := by
  have hl := encB_len h
  rw [decN, encB, one_wrap 48 (by omega) (by omega) _ (by omega), decNO]
  simp only
  rw [openF, if_neg (by simp), list_encQ n ((chkN_iff n).1 h).2, decNG, mapE_sort n ((chkN_iff n).1 h).2, decNF, if_pos (chkN_sort h)]

/-! ### what Decode accepts is what Encode writes -/
def GoodE (e : Elt) : Prop := e.1 < 256 ∧ e.1 % 32 ≠ 31 ∧ e.2.1.length ≤ 131072 ∧ e.2.2 = wrapW e.1 e.2.1
theorem open_ok {a t : Nat} {c : List UInt8} {l : List Elt} (h : openF a t c = .ok l) : a = t ∧ listF c = .ok l ∧ c = l.flatMap (·.2.2) ∧ ∀ e ∈ l, GoodE e := by
  unfold openF at h
  by_cases e : (a : Int) ≠ (t : Int)
  · rw [if_pos e] at h; cases h
  · rw [if_neg e] at h
    exact ⟨by omega, h, list_raw _ _ _ (Nat.le_refl _) h, list_is_wrap _ _ _ (Nat.le_refl _) h⟩
theorem enc_decA {e : Elt} {a : Attr} (he : GoodE e) (h : decA e = .ok a) : encA a = e.2.2 := by
  unfold decA at h
  cases hL : openF e.1 48 e.2.1 with
  | error k => rw [hL] at h; cases h
  | ok l =>
    rw [hL] at h
    obtain ⟨h48, _, hc, hg⟩ := open_ok (t := 48) hL
    match l, h, hc, hg with
    | [], h, _, _ => cases h
    | x :: r, h, hc, hg =>
      rw [decAG, decAL] at h
      by_cases h6 : x.1 ≠ 6
      · rw [if_pos h6] at h; cases h
      rw [if_neg h6] at h
      have h6' : x.1 = 6 := by omega
      cases hd : decP x.2.1 with
      | none => rw [hd] at h; cases h
      | some id =>
        rw [hd, decAI] at h
        obtain ⟨_, henc⟩ := enc_decP hd
        match r, h, hc, hg with
        | [], h, _, _ => cases h
        | y :: q, h, hc, hg =>
          rw [decAV] at h
          by_cases hk : y.1 ≠ 12 ∧ y.1 ≠ 19 ∧ y.1 ≠ 22
          · rw [if_pos hk] at h; cases h
          rw [if_neg hk] at h
          by_cases hq : q ≠ []
          · rw [if_pos hq] at h; cases h
          rw [if_neg hq] at h
          cases h
          have hq' : q = [] := by simpa using hq
          subst hq'
          have hx := (hg x (by simp)).2.2.2
          have hy := (hg y (by simp)).2.2.2
          rw [he.2.2.2, h48, hc, encA, idW]
          simp only [henc, Option.getD_some, Int.toNat_natCast, List.flatMap_cons, List.flatMap_nil, List.append_nil]
          rw [hx, hy, h6']
theorem mapE_inv {α β γ : Type} {f : α → Except Int β} {g : β → γ} {k : α → γ} : ∀ (l : List α) (m : List β), (∀ x ∈ l, ∀ y, f x = .ok y → g y = k x) → mapE f l = .ok m → m.map g = l.map k
  | [], m, _, h => by cases h; rfl
  | x :: l, m, hg, h => by
    rw [mapE] at h
    cases h1 : f x with
    | error k => rw [h1] at h; cases h
    | ok y =>
      rw [h1] at h
      cases h2 : mapE f l with
      | error k => rw [h2] at h; cases h
      | ok m' =>
        rw [h2] at h
        cases h
        rw [List.map_cons, List.map_cons, hg x (by simp) y h1, mapE_inv l m' (fun z hz => hg z (by simp [hz])) h2]
theorem enc_decR {e : Elt} {r : List Attr} (he : GoodE e) (h : decR e = .ok r) : encQ r = e.2.2 := by
  unfold decR at h
  cases hL : openF e.1 49 e.2.1 with
  | error k => rw [hL] at h; cases h
  | ok l =>
    rw [hL, decRG, decRL] at h
    obtain ⟨h49, _, hc, hg⟩ := open_ok (t := 49) hL
    by_cases ha : ascB l = false
    · rw [if_pos ha] at h; cases h
    rw [if_neg ha] at h
    have h1 : r.map encA = l.map (·.2.2) := mapE_inv l r (fun x hx y hy => enc_decA (hg x hx) hy) h
    have ha' : ascB l = true := by simpa using ha
    rw [asc_pair] at ha'
    rw [encQ, h1, ordF_sorted ha', he.2.2.2, h49, hc, List.flatMap_def]
theorem enc_decN {b : List UInt8} {n : Name} (h : decN b = .ok n) : encN n = (b, 0) := by
  unfold decN at h
  cases h1 : oneF b with
  | error k => rw [h1] at h; cases h
  | ok e =>
    rw [h1, decNO] at h
    obtain ⟨_, _, _, _, hb⟩ := one_is_wrap h1
    cases hL : openF e.1 48 e.2.1 with
    | error k => rw [hL] at h; cases h
    | ok l =>
      rw [hL, decNG] at h
      obtain ⟨h48, _, hc, hg⟩ := open_ok (t := 48) hL
      cases hm : mapE decR l with
      | error k => rw [hm] at h; cases h
      | ok m =>
        rw [hm, decNF] at h
        by_cases hk : chkN m = 0
        · rw [if_pos hk] at h
          cases h
          have h2 : n.map encQ = l.map (·.2.2) := mapE_inv l n (fun x hx y hy => enc_decR (hg x hx) hy) hm
          rw [encN, if_pos hk, encB, List.flatMap_def, h2, hb, h48, hc, List.flatMap_def]
        · rw [if_neg hk] at h; cases h

/-! ### the same name, apart from the order of attributes -/
def sameRB (a b : List Attr) : Bool := decide (a.length = b.length) && a.all fun x => b.contains x
def sameNB : Name → Name → Bool
  | [], [] => true
  | a :: n, b :: m => sameRB a b && sameNB n m
  | _, _ => false
theorem same_sort : ∀ n : Name, sameNB n (n.map sortR) = true
  | [] => rfl
  | r :: n => by
    rw [List.map_cons, sameNB, same_sort n, Bool.and_true, sameRB, Bool.and_eq_true]
    refine ⟨by simp [sortR], ?_⟩
    rw [List.all_eq_true]
    intro x hx
    rw [List.contains_iff_mem]
    exact (sortR_perm r).mem_iff.2 hx
end Go.Proofs.YtbafpgdmnkkclaaGreatDoor
