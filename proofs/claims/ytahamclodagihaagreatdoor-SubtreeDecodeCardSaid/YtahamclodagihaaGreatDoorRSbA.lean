/- Name constraints, plain: what Check asks, what Encode writes, what Decode reads. -/
import Derived.Test.YtahamclodagihaaGreatDoorRGGlA
import Derived.Test.YtahamclodagihaaGreatDoorRGnJ
namespace Go.Proofs.YtahamclodagihaaGreatDoor
open Go.RowKit
def chkS (s : Sub) : Int := if s.1.length = 0 ∧ s.2.length = 0 then 7 else if 16 < s.1.length ∨ 16 < s.2.length then 2 else chkGs true (s.1 ++ s.2)
def treeB (g : Gen) : List UInt8 := wrapW 48 (encGB g)
def partO (t : Nat) (l : List Gen) : Option (List UInt8) := if l.length = 0 then some [] else wrapO t (l.flatMap treeB)
def encSO : Option (List UInt8) → Option (List UInt8) → Option (List UInt8)
 | some a, some b => wrapO 48 (a ++ b)
 | _, _ => none
def limR : Option (List UInt8) → List UInt8 × Int
 | some b => (b, 0)
 | none => ([], 2)
def encS (s : Sub) : List UInt8 × Int := if chkS s = 0 then limR (encSO (partO 160 s.1) (partO 161 s.2)) else ([], chkS s)
def decTX (r : List Elt) : Except Int Gen → Except Int Gen
 | .error k => .error k
 | .ok g => if r ≠ [] then .error 4 else .ok g
def decTL : List Elt → Except Int Gen
 | [] => .error 3
 | x :: r => decTX r (decGE true x)
def decTG : Except Int (List Elt) → Except Int Gen
 | .error k => .error k
 | .ok l => decTL l
def decT (e : Elt) : Except Int Gen := decTG (openF e.1 48 e.2.1)
def decPL : Except Int (List Elt) → Except Int (List Gen)
 | .error k => .error k
 | .ok l => if l.length = 0 then .error 7 else mapE decT l
def decP2 (b : List UInt8) : Except Int (List Gen) := decPL (listF b)
def partR (r : List Elt) : Except Int (List Gen) → Except Int (List Gen × List Elt)
 | .error k => .error k
 | .ok l => .ok (l, r)
def partD (t : Nat) : List Elt → Except Int (List Gen × List Elt)
 | [] => .ok ([], [])
 | x :: r => if x.1 = t then partR r (decP2 x.2.1) else .ok ([], x :: r)
def decSC (s : Sub) : Except Int Sub := if chkS s = 0 then .ok s else .error (chkS s)
def decSX (p : List Gen) : Except Int (List Gen × List Elt) → Except Int Sub
 | .error k => .error k
 | .ok q => if q.2 ≠ [] then .error 4 else decSC (p, q.1)
def decSP : Except Int (List Gen × List Elt) → Except Int Sub
 | .error k => .error k
 | .ok q => decSX q.1 (partD 161 q.2)
def decSG : Except Int (List Elt) → Except Int Sub
 | .error k => .error k
 | .ok l => decSP (partD 160 l)
def decSO : Except Int Elt → Except Int Sub
 | .error k => .error k
 | .ok e => decSG (openF e.1 48 e.2.1)
def decS (b : List UInt8) : Except Int Sub := decSO (oneF b)
theorem decGE_err0 {c : Bool} {e : Elt} : decGE c e ≠ .error 0 := decG_err0
theorem decT_err0 (e : Elt) : decT e ≠ .error 0 := fun h => by
  unfold decT at h
  cases hL : openF e.1 48 e.2.1 with
  | error k =>
    rw [hL] at h
    simp only [decTG, Except.error.injEq] at h
    subst h
    exact openF_err0 hL
  | ok l =>
    rw [hL, decTG] at h
    match l, h with
    | [], h => cases h
    | x :: r, h =>
      rw [decTL] at h
      cases hd : decGE true x with
      | error k =>
        rw [hd] at h
        simp only [decTX, Except.error.injEq] at h
        subst h
        exact decGE_err0 hd
      | ok g =>
        rw [hd, decTX] at h
        split at h
        · cases h
        · cases h
theorem decP2_err0 (b : List UInt8) : decP2 b ≠ .error 0 := fun h => by
  unfold decP2 at h
  cases hL : listF b with
  | error k =>
    rw [hL] at h
    simp only [decPL, Except.error.injEq] at h
    subst h
    exact list_err0 _ _ (Nat.le_refl _) hL
  | ok l =>
    rw [hL, decPL] at h
    split at h
    · cases h
    · exact mapE_err0 decT_err0 l h
theorem treeB_len (g : Gen) : (treeB g).length ≤ (encGB g).length + 5 := by
 rw [treeB, wrapW_len]
 have := lenB_le (encGB g).length
 omega
end Go.Proofs.YtahamclodagihaaGreatDoor
