/- The reference of package oid: ValidOID, LessOID, UnderOID. -/
import Derived.Test.YtbafpgdmnkkclaaDoorOidG
namespace Go.Proofs.YtbafpgdmnkkclaaDoor
open Go.RowKit

theorem rarcs_p (s : ByteArray) (hs : s.size ≤ 1000000) (w : World) :
    Calls Tryd.prog 67 #[.string s] w (RefPost w (arcsP s.data.toList)) := by
  rw [← refP_arcsP]
  exact rarcs_any s hs w

set_option maxHeartbeats 1000000 in
theorem oidRValid_any (s : ByteArray) (hs : s.size ≤ 1000000) (w : World) :
    Calls Tryd.prog 60 #[.string s] w fun e w' => e = .returned (.bool (validB s.data.toList)) ∧ Below w.heap.size w w' := by
  obtain ⟨r, hr⟩ : ∃ r, arcsP s.data.toList = r := ⟨_, rfl⟩
  rw [validB, hr]
  have HR := hide hr
  clear hr
  go_enter Tryd.func60, Tryd.ntmps60
  go_wp2_with fail
  refine (rarcs_p s hs _).mono ?_
  rw [HR.out]
  rintro e w1 ⟨hb, h⟩
  cases r with
  | none =>
    subst h
    go_wp2_with fail
    go_ret
    exact ⟨rfl, hb⟩
  | some l =>
    obtain ⟨g, c, rfl, _, _⟩ := h
    go_wp2_with fail
    go_ret
    exact ⟨rfl, hb⟩



def prefL : List Nat → List Nat → Bool
  | [], _ => true
  | _ :: _, [] => false
  | b :: y, a :: x => if a = b then prefL y x else false
def underO : Option (List Nat) → Option (List Nat) → Bool
  | some x, some y => if x.length < y.length then false else prefL y x
  | _, _ => false
def rUnderP (a b : List UInt8) : Bool := underO (arcsP a) (arcsP b)

end Go.Proofs.YtbafpgdmnkkclaaDoor
