/- Plain laws: the numbers of contents; Decode inverts Encode, and the reference's Decode is the program's. -/
import Derived.Test.YtbafpgdmnkkclaaDoorOidL
import Derived.Test.YtbafpgdmnkkclaaDoorOidJ
import Derived.Test.YtbafpgdmnkkclaaDoorOid1
namespace Go.Proofs.YtbafpgdmnkkclaaDoor
open Go.RowKit

/-! ### numbers in base 128 -/
theorem numK_nil (o : Bool) (n : Nat) : numK o n [] = if o then none else some [] := rfl
theorem numK_hi : ∀ k : Nat, 1 ≤ k → k ≤ 33554431 → ∀ r, numK false 0 (hiL k ++ r) = numK true k r := by
  intro k
  induction k using Nat.strongRecOn with
  | ind k ih =>
    intro h1 h2 r
    have hb : (UInt8.ofNat (k % 128 + 128)).toNat = k % 128 + 128 := by have := ofNat_byte (k % 128 + 128) (by omega); omega
    rw [hiL_pos h1, List.append_assoc, List.singleton_append]
    by_cases h : k / 128 = 0
    · have hne : ¬ (false = false ∧ UInt8.ofNat (k % 128 + 128) = 128) := by
        rintro ⟨_, e⟩
        rw [e] at hb
        have : (128 : UInt8).toNat = 128 := rfl
        omega
      rw [h, hiL_zero, List.nil_append, numK, if_neg hne, hb, if_neg (by omega), if_neg (by omega)]
      congr 1
      omega
    · rw [ih (k / 128) (by omega) (by omega) (by omega), numK, if_neg (by simp), hb, if_neg (by omega), if_neg (by omega)]
      congr 1
      omega
theorem numK_put (n : Nat) (h : n ≤ 4294967294) (r : List UInt8) : numK false 0 (putL n ++ r) = (numK false 0 r).map (n :: ·) := by
  have hb : (UInt8.ofNat (n % 128)).toNat = n % 128 := by have := ofNat_byte (n % 128) (by omega); omega
  rw [putL, List.append_assoc, List.singleton_append]
  by_cases h0 : n / 128 = 0
  · have hne : ¬ (false = false ∧ UInt8.ofNat (n % 128) = 128) := by
      rintro ⟨_, e⟩
      rw [e] at hb
      have : (128 : UInt8).toNat = 128 := rfl
      omega
    rw [h0, hiL_zero, List.nil_append, numK, if_neg hne, hb, if_neg (by omega), if_pos (by omega), show 0 * 128 + n % 128 % 128 = n by omega]
  · rw [numK_hi _ (by omega) (by omega), numK, if_neg (by simp), hb, if_neg (by omega), if_pos (by omega), show n / 128 * 128 + n % 128 % 128 = n by omega]
theorem numK_flat : ∀ l : List Nat, (∀ n ∈ l, n ≤ 4294967294) → numK false 0 (l.flatMap putL) = some l
  | [], _ => rfl
  | n :: l, h => by
    rw [List.flatMap_cons, numK_put n (h n (by simp)), numK_flat l (fun m hm => h m (by simp [hm]))]; rfl
theorem ofNat_toNat' (c : UInt8) (n : Nat) (h : n = c.toNat) : UInt8.ofNat n = c := by subst h; simp
theorem numK_inv : ∀ (r : List UInt8) (o : Bool) (n : Nat) (l : List Nat), (o = false → n = 0) → (o = true → 1 ≤ n) → numK o n r = some l → hiL n ++ r = l.flatMap putL
  | [], o, n, l, h1, h2, h => by
    rw [numK_nil] at h
    cases o
    · cases h
      rw [h1 rfl, hiL_zero]; rfl
    · cases h
  | c :: r, o, n, l, h1, h2, h => by
    have hc := c.toNat_lt
    rw [numK] at h
    split at h
    · cases h
    · rename_i hne
      split at h
      · cases h
      · split at h
        · rename_i hlt
          obtain ⟨l', h3, rfl⟩ := Option.map_eq_some_iff.1 h
          have ih := numK_inv r false 0 l' (fun _ => rfl) (fun e => by cases e) h3
          rw [hiL_zero, List.nil_append] at ih
          rw [List.flatMap_cons, ← ih, putL, show (n * 128 + c.toNat % 128) / 128 = n by omega, ofNat_toNat' c _ (by omega)]
          simp
        · rename_i hge
          have h128 : c = 128 → o = true := fun e => by
            cases o
            · exact absurd ⟨rfl, e⟩ hne
            · rfl
          have hn1 : 1 ≤ n * 128 + c.toNat % 128 := by
            cases o
            · have : c.toNat ≠ 128 := fun e => by
                have e2 : c = 128 := UInt8.toNat_inj.1 e
                cases h128 e2
              omega
            · have := h2 rfl; omega
          have ih := numK_inv r true _ l (fun e => by cases e) (fun _ => hn1) h
          rw [← ih, hiL_pos hn1, show (n * 128 + c.toNat % 128) / 128 = n by omega, ofNat_toNat' c _ (by omega)]
          simp
theorem numK_bd : ∀ (r : List UInt8) (o : Bool) (n : Nat) (l : List Nat), numK o n r = some l → ∀ m ∈ l, m ≤ 4294967294
  | [], o, n, l, h => by
    rw [numK_nil] at h
    cases o <;> cases h
    intro m hm; cases hm
  | c :: r, o, n, l, h => by
    rw [numK] at h
    split at h
    · cases h
    · split at h
      · cases h
      · split at h
        · obtain ⟨l', h3, rfl⟩ := Option.map_eq_some_iff.1 h
          intro m hm
          rcases List.mem_cons.1 hm with rfl | hm
          · omega
          · exact numK_bd r _ _ l' h3 m hm
        · exact numK_bd r _ _ l h
theorem numK_head : ∀ (r : List UInt8) (n : Nat) (l : List Nat), numK true n r = some l → ∃ m l', l = m :: l' ∧ n ≤ m
  | [], n, l, h => by cases h
  | c :: r, n, l, h => by
    rw [numK] at h
    split at h
    · cases h
    · split at h
      · cases h
      · split at h
        · obtain ⟨l', h3, rfl⟩ := Option.map_eq_some_iff.1 h
          exact ⟨_, l', rfl, by omega⟩
        · obtain ⟨m, l', e, hm⟩ := numK_head r _ l h
          exact ⟨m, l', e, by omega⟩

/-! ### the arcs that the numbers stand for -/
def firstA (v : Nat) : Nat := min (v / 40) 2
def expandL : List Nat → List Nat
  | [] => []
  | v :: r => firstA v :: (v - 40 * firstA v) :: r
def decP (c : List UInt8) : Option (List UInt8) :=
  if (numP c).length = 0 ∨ 11 < (numP c).length then none else if ∀ n ∈ expandL (numP c), n ≤ 2147483647 then some (showL (expandL (numP c))) else none
instance (l : List Nat) : Decidable (ValidA l) := by unfold ValidA; infer_instance
def finL (l : List Nat) : Option (List UInt8) := if l ≠ [] ∧ ValidA (expandL l) then some (showL (expandL l)) else none
theorem expandL_len {l : List Nat} (h : l ≠ []) : (expandL l).length = l.length + 1 := by
  cases l with
  | nil => exact absurd rfl h
  | cons v r => rfl
theorem expandL_root {l : List Nat} (h : l ≠ []) : rootB ((expandL l).getD 0 0) ((expandL l).getD 1 0) = true := by
  cases l with
  | nil => exact absurd rfl h
  | cons v r =>
    show rootB (firstA v) (v - 40 * firstA v) = true
    unfold rootB firstA
    simp
    omega
theorem expandL_app {l : List Nat} (h : l ≠ []) (r : List Nat) : expandL (l ++ r) = expandL l ++ r := by
  cases l with
  | nil => exact absurd rfl h
  | cons v l => rfl
theorem valid_expand {l : List Nat} (h : l ≠ []) : ValidA (expandL l) ↔ l.length ≤ 11 ∧ ∀ n ∈ expandL l, n ≤ 2147483647 := by
  unfold ValidA
  rw [expandL_len h, expandL_root h]
  have : 0 < l.length := List.length_pos_iff.2 h
  constructor
  · rintro ⟨_, h2, h3, _⟩; exact ⟨by omega, h3⟩
  · rintro ⟨h2, h3⟩; exact ⟨by omega, by omega, h3, rfl⟩
theorem decP_fin (c : List UInt8) : decP c = (numK false 0 c).bind finL := by
  unfold decP numP
  cases h : numK false 0 c with
  | none => rfl
  | some l =>
    simp only [Option.getD_some, Option.bind_some, finL]
    by_cases h0 : l = []
    · rw [if_pos (.inl (by rw [h0]; rfl)), if_neg (fun hh => hh.1 h0)]
    · have hl : 0 < l.length := List.length_pos_iff.2 h0
      by_cases h11 : 11 < l.length
      · rw [if_pos (.inr h11), if_neg (fun hh => by have := (valid_expand h0).1 hh.2; omega)]
      · rw [if_neg (by omega)]
        by_cases ha : ∀ n ∈ expandL l, n ≤ 2147483647
        · rw [if_pos ha, if_pos ⟨h0, (valid_expand h0).2 ⟨by omega, ha⟩⟩]
        · rw [if_neg ha, if_neg (fun hh => ha ((valid_expand h0).1 hh.2).2)]
/-- a number that is too great -/
theorem finL_big {l : List Nat} {m : Nat} (hm : m ∈ l) (h : 2147483727 < m) : finL l = none := by
  unfold finL
  rw [if_neg]
  rintro ⟨h0, hv⟩
  have ha := ((valid_expand h0).1 hv).2
  cases l with
  | nil => cases hm
  | cons v r =>
    rcases List.mem_cons.1 hm with rfl | hm
    · have := ha (m - 40 * firstA m) (by simp [expandL])
      have h2 : firstA m ≤ 2 := Nat.min_le_right _ _
      omega
    · have := ha m (by simp [expandL, hm])
      omega
theorem finL_long {l : List Nat} (h : 11 < l.length) : finL l = none := by
  unfold finL
  rw [if_neg]
  rintro ⟨h0, hv⟩
  have := ((valid_expand h0).1 hv).1
  omega
theorem numK_big (r : List UInt8) (o : Bool) (n : Nat) (c : UInt8) (out : List Nat) (h : 2147483727 < n * 128 + c.toNat % 128) :
    (numK o n (c :: r)).bind (fun l => finL (out ++ l)) = none := by
  rw [numK]
  split
  · rfl
  · split
    · rfl
    · split
      · cases hk : numK false 0 r with
        | none => rfl
        | some l' =>
          simp only [Option.map_some, Option.bind_some]
          exact finL_big (m := n * 128 + c.toNat % 128) (by simp) h
      · cases hk : numK true (n * 128 + c.toNat % 128) r with
        | none => rfl
        | some l' =>
          obtain ⟨m, l2, rfl, hm⟩ := numK_head r _ l' hk
          simp only [Option.bind_some]
          exact finL_big (m := m) (by simp) (by omega)
theorem numK_long (r : List UInt8) (o : Bool) (n : Nat) (out : List Nat) (h : 11 < out.length) : (numK o n r).bind (fun l => finL (out ++ l)) = none := by
  cases hk : numK o n r with
  | none => rfl
  | some l => exact finL_long (by rw [List.length_append]; omega)
/-- the end: the text that has been made is checked -/
theorem finL_end (out : List Nat) : finL out = if validB (showL (expandL out)) then some (showL (expandL out)) else none := by
  unfold finL
  by_cases h0 : out = []
  · subst h0
    rw [if_neg (by simp)]
    rfl
  · have hne : expandL out ≠ [] := fun e => by have := expandL_len h0; rw [e] at this; simp at this
    by_cases hv : ValidA (expandL out)
    · rw [if_pos ⟨h0, hv⟩, if_pos]
      unfold validB
      rw [arcsP_of hv]; rfl
    · rw [if_neg (fun hh => hv hh.2), if_neg]
      unfold validB
      cases ha : arcsP (showL (expandL out)) with
      | none => simp
      | some m => exact absurd (arcsP_iff hne ha).2 hv

/-! ### there and back -/
theorem decP_enc {L : List Nat} (h : ValidA L) : decP (encL L) = some (showL L) := by
  obtain ⟨h1, h2, h3, h4⟩ := h
  match L, h1, h2, h3, h4 with
  | a :: b :: r, h1, h2, h3, h4 =>
    have e : encL (a :: b :: r) = ((40 * a + b) :: r).flatMap putL := by rw [encL, List.flatMap_cons]; rfl
    have ha := h3 a (by simp)
    have hb := h3 b (by simp)
    have hr : rootB a b = true := h4
    have hr' : (a ≤ 1 ∧ b ≤ 39) ∨ a = 2 := by simpa [rootB] using hr
    have hf : firstA (40 * a + b) = a := by unfold firstA; omega
    rw [decP_fin, e, numK_flat _ (fun n hn => by
      rcases List.mem_cons.1 hn with rfl | hn
      · omega
      · have := h3 n (by simp [hn]); omega), Option.bind_some, finL]
    have hx : expandL ((40 * a + b) :: r) = a :: b :: r := by
      rw [expandL, hf, show 40 * a + b - 40 * a = b by omega]
    rw [hx, if_pos ⟨by simp, h1, h2, h3, h4⟩]
theorem enc_decP {c z : List UInt8} (h : decP c = some z) : validB z = true ∧ encP z = some c := by
  rw [decP_fin] at h
  obtain ⟨l, h1, h2⟩ := Option.bind_eq_some_iff.1 h
  unfold finL at h2
  split at h2
  · rename_i hv
    cases h2
    have ha := arcsP_of hv.2
    refine ⟨by unfold validB; rw [ha]; rfl, ?_⟩
    rw [encP, ha, Option.map_some]
    congr 1
    have hi := numK_inv c false 0 l (fun _ => rfl) (fun e => by cases e) h1
    rw [hiL_zero, List.nil_append] at hi
    rw [hi]
    match l, hv.1 with
    | v :: r, _ =>
      show putL (40 * firstA v + (v - 40 * firstA v)) ++ r.flatMap putL = _
      have : firstA v ≤ v / 40 := Nat.min_le_left _ _
      rw [show 40 * firstA v + (v - 40 * firstA v) = v by omega, List.flatMap_cons]
  · cases h2
theorem show_snoc {L : List Nat} (h : L ≠ []) (v : Nat) : showL (L ++ [v]) = showL L ++ 46 :: decL v := by
  rw [showL, List.map_append, joinC_app 46 _ _ (by simpa using h) (by simp)]
  rfl
theorem decL_dig (u : Nat) : Lib.decDigits u = decL u := by
  induction u using Nat.strongRecOn with
  | ind u ih =>
    rw [Lib.decDigits, decL]
    split
    · rfl
    · rw [ih (u / 10) (by omega)]
end Go.Proofs.YtbafpgdmnkkclaaDoor
