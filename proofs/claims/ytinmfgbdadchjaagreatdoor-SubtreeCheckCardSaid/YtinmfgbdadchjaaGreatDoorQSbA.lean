/- Name constraints, plain: what Check asks, what Encode writes, what Decode reads. -/
import Derived.Test.YtinmfgbdadchjaaGreatDoorQGGlA
import Derived.Test.YtinmfgbdadchjaaGreatDoorQGnJ
namespace Go.Proofs.YtinmfgbdadchjaaGreatDoor
open Go.RowKit
def chkS (s : Sub) : Int := if s.1.length = 0 ∧ s.2.length = 0 then 7 else if 16 < s.1.length ∨ 16 < s.2.length then 2 else chkGs true (s.1 ++ s.2)
def treeB (g : Gen) : List UInt8 := wrapW 48 (encGB g)
def partO (t : Nat) (l : List Gen) : Option (List UInt8) := if l.length = 0 then some [] else wrapO t (l.flatMap treeB)
def encSO : Option (List UInt8) → Option (List UInt8) → Option (List UInt8)
 | some a, some b => wrapO 48 (a ++ b)
 | _, _ => none
def limR : Option (List UInt8) → List UInt8 × Int
 | some b => (b, 0)
 | none => ([], 2)
def encS (s : Sub) : List UInt8 × Int := if chkS s = 0 then limR (encSO (partO 160 s.1) (partO 161 s.2)) else ([], chkS s)
theorem treeB_len (g : Gen) : (treeB g).length ≤ (encGB g).length + 5 := by
 rw [treeB, wrapW_len]
 have := lenB_le (encGB g).length
 omega
end Go.Proofs.YtinmfgbdadchjaaGreatDoor
