/- Keys, plain: what Encode writes, what Decode reads, and that each inverts the other. -/
import Derived.Test.YtbafpgdmnkkclaaDoorExtP
namespace Go.Proofs.YtbafpgdmnkkclaaDoor
open Go.RowKit

/-- a key: height, identifier, root -/
abbrev Key := Int × List UInt8 × List UInt8
def chkK (k : Key) : Int := if k.1 < 0 ∨ 8 < k.1 ∨ k.2.1.length ≠ 16 ∨ k.2.2.length ≠ 16 then 18 else 0
def algS : List UInt8 := [49, 46, 51, 46, 54, 46, 49, 46, 52, 46, 49, 46, 53, 56, 56, 56, 56, 46, 49, 46, 49]
def algC : List UInt8 := [43, 6, 1, 4, 1, 131, 204, 8, 1, 1]
def algI : List UInt8 := [6, 10, 43, 6, 1, 4, 1, 131, 204, 8, 1, 1]
def algW : List UInt8 := [48, 12, 6, 10, 43, 6, 1, 4, 1, 131, 204, 8, 1, 1]
theorem algI_eq : wrapW 6 algC = algI := by decide +kernel
theorem algW_eq : wrapW 48 algI = algW := by decide +kernel
theorem algE_eq : encP algS = some algC := by decide +kernel
theorem algD_eq : decP algC = some algS := dec_enc algE_eq
/-- the error of an element that should be the algorithm: its tag, its content -/
def algL : List Elt → Int
  | [] => 3
  | a :: r => if a.1 ≠ 6 then 5 else
    match decP a.2.1 with
    | none => 11
    | some id => if id ≠ algS ∨ r ≠ [] then 16 else 0
def chkAlg (t : Int) (c : List UInt8) : Int :=
  if t ≠ 48 then 5 else
  match listF c with
  | .error k => k
  | .ok l => algL l
def rawK (k : Key) : List UInt8 := UInt8.ofNat k.1.toNat :: (k.2.1 ++ k.2.2)
def keyW (k : Key) : List UInt8 := wrapW 48 (algW ++ wrapW 3 (0 :: rawK k))
def encK (k : Key) : List UInt8 × Int := if chkK k = 0 then (keyW k, 0) else ([], 18)
/-- the bytes of a bit string, and how many bits are unused -/
def bitsF : List UInt8 → Option (List UInt8 × Nat)
  | [] => none
  | u :: b => if 7 < u.toNat then none else if u.toNat = 0 then some (b, 0) else if b = [] then none else if (b.getLast?.getD 0).toNat % 2 ^ u.toNat ≠ 0 then none else some (b, u.toNat)
def keyB (b : List UInt8) : Key := ((b.getD 0 0).toNat, (b.drop 1).take 16, b.drop 17)
def bitK (x : Elt) (q : List Elt) : Except Int Key :=
  if x.1 ≠ 3 then .error 5 else
  match bitsF x.2.1 with
  | none => .error 7
  | some (b, u) => if u ≠ 0 ∨ b.length ≠ 33 then .error 18 else if chkK (keyB b) ≠ 0 then .error 18 else if q ≠ [] then .error 4 else .ok (keyB b)
def keyT : List Elt → Except Int Key
  | [] => .error 3
  | x :: q => bitK x q
def decKl : List Elt → Except Int Key
  | [] => .error 3
  | a :: r => if chkAlg a.1 a.2.1 ≠ 0 then .error (chkAlg a.1 a.2.1) else keyT r
def decK (b : List UInt8) : Except Int Key :=
  match oneF b with
  | .error k => .error k
  | .ok e => if e.1 ≠ 48 then .error 5 else
    match listF e.2.1 with
    | .error k => .error k
    | .ok l => decKl l
theorem chkK_ok {k : Key} (h : chkK k = 0) : 0 ≤ k.1 ∧ k.1 ≤ 8 ∧ k.2.1.length = 16 ∧ k.2.2.length = 16 := by
  unfold chkK at h
  split at h
  · cases h
  · omega
theorem chkK_of {k : Key} (h1 : 0 ≤ k.1) (h2 : k.1 ≤ 8) (h3 : k.2.1.length = 16) (h4 : k.2.2.length = 16) : chkK k = 0 := if_neg (by omega)
theorem rawK_len {k : Key} (h : chkK k = 0) : (rawK k).length = 33 := by
  obtain ⟨_, _, h3, h4⟩ := chkK_ok h
  simp [rawK, h3, h4]
theorem keyB_raw {k : Key} (h : chkK k = 0) : keyB (rawK k) = k := by
  obtain ⟨h1, h2, h3, h4⟩ := chkK_ok h
  obtain ⟨n, i, r⟩ := k
  simp only at h1 h2 h3 h4
  have e1 : (UInt8.ofNat n.toNat).toNat = n.toNat := by rw [UInt8.toNat_ofNat']; omega
  have e2 : (i ++ r).take 16 = i := by rw [← h3, List.take_left]
  have e3 : (i ++ r).drop 16 = r := by rw [← h3, List.drop_left]
  simp only [keyB, rawK, List.getD_cons_zero, List.drop_succ_cons, List.drop_zero, e1, e2, e3]
  congr 1
  omega
theorem raw_keyB {b : List UInt8} (h : b.length = 33) : rawK (keyB b) = b := by
  match b, h with
  | c :: r, h =>
    simp only [keyB, rawK, List.getD_cons_zero, List.drop_succ_cons, List.drop_zero, Int.toNat_natCast]
    rw [u8_eq (a := UInt8.ofNat c.toNat) (b := c) (by rw [ofNat_mod]; have := c.toNat_lt; omega), List.take_append_drop]
theorem chkAlg_ok {e : Elt} (he : e.1 < 256 ∧ e.1 % 32 ≠ 31 ∧ e.2.1.length ≤ 131072 ∧ e.2.2 = wrapW e.1 e.2.1) (h : chkAlg e.1 e.2.1 = 0) : e.2.2 = algW := by
  unfold chkAlg at h
  by_cases h48 : (e.1 : Int) ≠ 48
  · rw [if_pos h48] at h; cases h
  rw [if_neg h48] at h
  have h48' : e.1 = 48 := by omega
  cases hL : listF e.2.1 with
  | error k =>
    rw [hL] at h
    simp only at h
    subst h
    exact absurd hL (list_err0 _ _ (Nat.le_refl _))
  | ok L =>
    rw [hL] at h
    have hraw := list_raw _ _ _ (Nat.le_refl _) hL
    have hmem := list_is_wrap _ _ _ (Nat.le_refl _) hL
    simp only at h
    match L, h with
    | [], h => cases h
    | a :: r, h =>
      rw [algL] at h
      by_cases ha : a.1 ≠ 6
      · rw [if_pos ha] at h; cases h
      rw [if_neg ha] at h
      have ha' : a.1 = 6 := by omega
      cases hid : decP a.2.1 with
      | none => rw [hid] at h; cases h
      | some id =>
        rw [hid] at h
        simp only at h
        split at h
        · cases h
        · rename_i hn
          have h1 : id = algS := Classical.byContradiction fun hh => hn (.inl hh)
          have h2 : r = [] := Classical.byContradiction fun hh => hn (.inr hh)
          subst h1 h2
          obtain ⟨_, henc⟩ := enc_decP hid
          rw [algE_eq] at henc
          have hac : algC = a.2.1 := Option.some.inj henc
          have haw := (hmem a (by simp)).2.2.2
          rw [he.2.2.2, hraw, h48', List.flatMap_cons, haw, ha', List.flatMap_nil, List.append_nil, ← hac, algI_eq, algW_eq]
theorem alg_list : listF algI = .ok [(6, algC, algI)] := by
  have := list_wrap 6 (by omega) (by omega) algC [] (by decide)
  rw [List.append_nil, listF_nil, algI_eq] at this
  exact this
theorem chkAlg_of : chkAlg 48 algI = 0 := by
  rw [chkAlg, if_neg (by simp), alg_list]
  simp only
  rw [algL, if_neg (by simp)]
  simp only
  rw [algD_eq]
  simp
theorem decK_enc {k : Key} (h : chkK k = 0) : decK (keyW k) = .ok k := by
  have hl := rawK_len h
  have h3 := list_wrap 3 (by omega) (by omega) (0 :: rawK k) [] (by simp [hl])
  rw [List.append_nil, listF_nil] at h3
  have h2 := list_wrap 48 (by omega) (by omega) algI (wrapW 3 (0 :: rawK k)) (by decide)
  rw [algW_eq, h3] at h2
  have hwl : (algW ++ wrapW 3 (0 :: rawK k)).length ≤ 131072 := by
    rw [List.length_append, wrapW_len]
    have := lenB_le (0 :: rawK k).length
    have e : algW.length = 14 := rfl
    simp only [List.length_cons, hl] at *
    omega
  rw [decK, keyW, one_wrap 48 (by omega) (by omega) _ hwl]
  simp only
  rw [if_neg (by simp), h2]
  simp only
  rw [decKl]
  simp only
  rw [show ((48 : Nat) : Int) = 48 from rfl, chkAlg_of, if_neg (by simp), keyT, bitK, if_neg (by simp)]
  simp only
  rw [show bitsF (0 :: rawK k) = some (rawK k, 0) from rfl]
  simp only
  rw [if_neg (by rw [hl]; simp), keyB_raw h, h]
  simp
theorem enc_decK {b : List UInt8} {k : Key} (h : decK b = .ok k) : encK k = (b, 0) := by
  unfold decK at h
  cases h1 : oneF b with
  | error n => rw [h1] at h; cases h
  | ok e =>
    rw [h1] at h
    simp only at h
    obtain ⟨_, _, hl, _, hb⟩ := one_is_wrap h1
    by_cases h48 : e.1 ≠ 48
    · rw [if_pos h48] at h; cases h
    rw [if_neg h48] at h
    have h48' : e.1 = 48 := by omega
    cases hL : listF e.2.1 with
    | error n => rw [hL] at h; cases h
    | ok L =>
      rw [hL] at h
      simp only at h
      have hraw := list_raw _ _ _ (Nat.le_refl _) hL
      have hmem := list_is_wrap _ _ _ (Nat.le_refl _) hL
      match L, h with
      | [], h => cases h
      | a :: r, h =>
        rw [decKl] at h
        by_cases ha : chkAlg a.1 a.2.1 ≠ 0
        · rw [if_pos ha] at h; cases h
        rw [if_neg ha] at h
        have haw := chkAlg_ok (hmem a (by simp)) (by simpa using ha)
        match r, h with
        | [], h => cases h
        | x :: q, h =>
          rw [keyT] at h
          have hx := hmem x (by simp)
          unfold bitK at h
          by_cases hx3 : x.1 ≠ 3
          · rw [if_pos hx3] at h; cases h
          rw [if_neg hx3] at h
          have hx3' : x.1 = 3 := by omega
          cases hbt : bitsF x.2.1 with
          | none => rw [hbt] at h; cases h
          | some p =>
            obtain ⟨c, u⟩ := p
            rw [hbt] at h
            simp only at h
            by_cases hu : u ≠ 0 ∨ c.length ≠ 33
            · rw [if_pos hu] at h; cases h
            rw [if_neg hu] at h
            by_cases hc : chkK (keyB c) ≠ 0
            · rw [if_pos hc] at h; cases h
            rw [if_neg hc] at h
            by_cases hq : q ≠ []
            · rw [if_pos hq] at h; cases h
            rw [if_neg hq] at h
            cases h
            have hq' : q = [] := by simpa using hq
            subst hq'
            have hc' : chkK (keyB c) = 0 := by simpa using hc
            have hcont : x.2.1 = 0 :: c := by
              match hxx : x.2.1, hbt with
              | [], hbt => cases hbt
              | v :: d, hbt =>
                rw [bitsF] at hbt
                by_cases h7 : 7 < v.toNat
                · rw [if_pos h7] at hbt; cases hbt
                rw [if_neg h7] at hbt
                by_cases h0 : v.toNat = 0
                · rw [if_pos h0] at hbt
                  cases hbt
                  rw [show v = 0 from u8_eq (by rw [h0]; rfl)]
                · rw [if_neg h0] at hbt
                  exfalso
                  split at hbt
                  · cases hbt
                  · split at hbt
                    · cases hbt
                    · cases hbt
                      exact hu (.inl h0)
            rw [encK, if_pos hc', keyW, raw_keyB (by omega), hb, h48', hraw]
            simp only [List.flatMap_cons, List.flatMap_nil, List.append_nil]
            rw [haw, hx.2.2.2, hx3', hcont]
end Go.Proofs.YtbafpgdmnkkclaaDoor
