/- The functions of package oid: Encode. -/
import Derived.Test.YtepibepgfackkaaDoorOidC
namespace Go.Proofs.YtepibepgfackkaaDoor
open Go.RowKit

def encR (o : Option (List UInt8)) : Value := .tuple #[.string ⟨(o.getD []).toArray⟩, .int .i64 (if o.isSome then 0 else 11)]
def encL (l : List Nat) : List UInt8 := putL (40 * l.getD 0 0 + l.getD 1 0) ++ (l.drop 2).flatMap putL
def encP (s : List UInt8) : Option (List UInt8) := (arcsP s).map encL
theorem putL_len (n : Nat) (h : n ≤ 4294967295) : (putL n).length ≤ 6 := by
  have := hiL_len (n / 128) (by omega)
  simp [putL]; omega
theorem rootB_le {a b : Nat} (h : rootB a b = true) : a ≤ 2 := by
  unfold rootB at h
  simp at h
  omega
theorem ret_encN {o : Option (List UInt8)} (h : o = none) : Ending.returned (.tuple #[.string ⟨#[]⟩, .int .i64 11]) = Ending.returned (encR o) := by subst h; rfl
theorem ret_encS {o : Option (List UInt8)} {l : List UInt8} (h : o = some l) : Ending.returned (.tuple #[.string ⟨l.toArray⟩, .int .i64 0]) = Ending.returned (encR o) := by subst h; rfl

end Go.Proofs.YtepibepgfackkaaDoor
