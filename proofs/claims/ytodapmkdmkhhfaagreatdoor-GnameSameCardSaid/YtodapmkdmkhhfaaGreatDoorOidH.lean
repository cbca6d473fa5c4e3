/- The reference of package oid: ValidOID, LessOID, UnderOID. -/
import Derived.Test.YtodapmkdmkhhfaaGreatDoorOidG
namespace Go.Proofs.YtodapmkdmkhhfaaGreatDoor
open Go.RowKit

def prefL : List Nat → List Nat → Bool
  | [], _ => true
  | _ :: _, [] => false
  | b :: y, a :: x => if a = b then prefL y x else false
def underO : Option (List Nat) → Option (List Nat) → Bool
  | some x, some y => if x.length < y.length then false else prefL y x
  | _, _ => false
def rUnderP (a b : List UInt8) : Bool := underO (arcsP a) (arcsP b)

end Go.Proofs.YtodapmkdmkhhfaaGreatDoor
