/- The laws of layer 9: short, some. -/
import Derived.Test.YtahamclodagihaaGreatDoorTGnZ
namespace Go.Proofs.YtahamclodagihaaGreatDoor
open Go.RowKit
theorem GB.store0 {g : Nat} {k : Int} {t : ByteArray} {v : Value} {W : World} (h : GB g k t v W) (a : Int) : GB g a t v (W.setCell ⟨g, 0, none⟩ (.int .i64 a)) := by
 unfold GB at *
 simp [World.setCell, Array.getElem?_modify, h]
theorem GB.store1 {g : Nat} {k : Int} {t : ByteArray} {v : Value} {W : World} (h : GB g k t v W) (a : ByteArray) : GB g k a v (W.setCell ⟨g, 1, none⟩ (.string a)) := by
 unfold GB at *
 simp [World.setCell, Array.getElem?_modify, h]
section
variable {d g2 g3 : Nat} {w W W' : World} {k : Int} {t : ByteArray} {n : Name} {A : Option Addr} {c : Nat}
end
end Go.Proofs.YtahamclodagihaaGreatDoor
