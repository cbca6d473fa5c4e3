/- Keys, plain: what Encode writes, what Decode reads, and that each inverts the other. -/
import Derived.Test.YtmgnihmjjijdoaaDoorKGOidL
namespace Go.Proofs.YtmgnihmjjijdoaaDoor
open Go.RowKit
abbrev Key := Int × List UInt8 × List UInt8
def chkK (k : Key) : Int := if k.1 < 0 ∨ 8 < k.1 ∨ k.2.1.length ≠ 16 ∨ k.2.2.length ≠ 16 then 18 else 0
def algS : List UInt8 := [49, 46, 51, 46, 54, 46, 49, 46, 52, 46, 49, 46, 53, 56, 56, 56, 56, 46, 49, 46, 49]
def algC : List UInt8 := [43, 6, 1, 4, 1, 131, 204, 8, 1, 1]
def algI : List UInt8 := [6, 10, 43, 6, 1, 4, 1, 131, 204, 8, 1, 1]
def algW : List UInt8 := [48, 12, 6, 10, 43, 6, 1, 4, 1, 131, 204, 8, 1, 1]
theorem algI_eq : wrapW 6 algC = algI := by decide +kernel
theorem algW_eq : wrapW 48 algI = algW := by decide +kernel
theorem algE_eq : encP algS = some algC := by decide +kernel
theorem algD_eq : decP algC = some algS := dec_enc algE_eq
def algL : List Elt → Int
  | [] => 3
  | a :: r => if a.1 ≠ 6 then 5 else
    match decP a.2.1 with
    | none => 11
    | some id => if id ≠ algS ∨ r ≠ [] then 16 else 0
def chkAlg (t : Int) (c : List UInt8) : Int :=
 if t ≠ 48 then 5 else
 match listF c with
 | .error k => k
 | .ok l => algL l
def rawK (k : Key) : List UInt8 := UInt8.ofNat k.1.toNat :: (k.2.1 ++ k.2.2)
def keyW (k : Key) : List UInt8 := wrapW 48 (algW ++ wrapW 3 (0 :: rawK k))
def encK (k : Key) : List UInt8 × Int := if chkK k = 0 then (keyW k, 0) else ([], 18)
def bitsF : List UInt8 → Option (List UInt8 × Nat)
 | [] => none
 | u :: b => if 7 < u.toNat then none else if u.toNat = 0 then some (b, 0) else if b = [] then none else if (b.getLast?.getD 0).toNat % 2 ^ u.toNat ≠ 0 then none else some (b, u.toNat)
def keyB (b : List UInt8) : Key := ((b.getD 0 0).toNat, (b.drop 1).take 16, b.drop 17)
def bitK (x : Elt) (q : List Elt) : Except Int Key :=
 if x.1 ≠ 3 then .error 5 else
 match bitsF x.2.1 with
 | none => .error 7
 | some (b, u) => if u ≠ 0 ∨ b.length ≠ 33 then .error 18 else if chkK (keyB b) ≠ 0 then .error 18 else if q ≠ [] then .error 4 else .ok (keyB b)
def keyT : List Elt → Except Int Key
 | [] => .error 3
 | x :: q => bitK x q
def decKl : List Elt → Except Int Key
 | [] => .error 3
 | a :: r => if chkAlg a.1 a.2.1 ≠ 0 then .error (chkAlg a.1 a.2.1) else keyT r
def decK (b : List UInt8) : Except Int Key :=
  match oneF b with
  | .error k => .error k
  | .ok e => if e.1 ≠ 48 then .error 5 else
    match listF e.2.1 with
    | .error k => .error k
    | .ok l => decKl l
theorem chkK_ok {k : Key} (h : chkK k = 0) : 0 ≤ k.1 ∧ k.1 ≤ 8 ∧ k.2.1.length = 16 ∧ k.2.2.length = 16 := by
 unfold chkK at h
 split at h
 ·cases h
 ·omega
theorem rawK_len {k : Key} (h : chkK k = 0) : (rawK k).length = 33 := by
 obtain ⟨_, _, h3, h4⟩ := chkK_ok h
 simp [rawK, h3, h4]
theorem keyB_raw {k : Key} (h : chkK k = 0) : keyB (rawK k) = k := by
 obtain ⟨h1, h2, h3, h4⟩ := chkK_ok h
 obtain ⟨n, i, r⟩ := k
 simp only at h1 h2 h3 h4
 have e1 : (UInt8.ofNat n.toNat).toNat = n.toNat := by rw [UInt8.toNat_ofNat']; omega
 have e2 : (i ++ r).take 16 = i := by rw [← h3, List.take_left]
 have e3 : (i ++ r).drop 16 = r := by rw [← h3, List.drop_left]
 simp only [keyB, rawK, List.getD_cons_zero, List.drop_succ_cons, List.drop_zero, e1, e2, e3]
 congr 1
 omega
theorem alg_list : listF algI = .ok [(6, algC, algI)] := by
 have := list_wrap 6 (by omega) (by omega) algC [] (by decide)
 rw [List.append_nil, listF_nil, algI_eq] at this
 exact this
theorem chkAlg_of : chkAlg 48 algI = 0 := by
 rw [chkAlg, if_neg (by simp), alg_list]
 simp only
 rw [algL, if_neg (by simp)]
 simp only
 rw [algD_eq]
 simp
theorem decK_enc {k : Key} (h : chkK k = 0) : decK (keyW k) = .ok k := by
 have hl := rawK_len h
 have h3 := list_wrap 3 (by omega) (by omega) (0 :: rawK k) [] (by simp [hl])
 rw [List.append_nil, listF_nil] at h3
 have h2 := list_wrap 48 (by omega) (by omega) algI (wrapW 3 (0 :: rawK k)) (by decide)
 rw [algW_eq, h3] at h2
 have hwl : (algW ++ wrapW 3 (0 :: rawK k)).length ≤ 131072 := by
  rw [List.length_append, wrapW_len]
  have := lenB_le (0 :: rawK k).length
  have e : algW.length = 14 := rfl
  simp only [List.length_cons, hl] at *
  omega
 rw [decK, keyW, one_wrap 48 (by omega) (by omega) _ hwl]
 simp only
 rw [if_neg (by simp), h2]
 simp only
 rw [decKl]
 simp only
 rw [show ((48 : Nat) : Int) = 48 from rfl, chkAlg_of, if_neg (by simp), keyT, bitK, if_neg (by simp)]
 simp only
 rw [show bitsF (0 :: rawK k) = some (rawK k, 0) from rfl]
 simp only
 rw [if_neg (by rw [hl]; simp), keyB_raw h, h]
 simp
end Go.Proofs.YtmgnihmjjijdoaaDoor
