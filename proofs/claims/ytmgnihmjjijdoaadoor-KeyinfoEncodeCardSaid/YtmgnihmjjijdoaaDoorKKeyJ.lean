/- The reference's DecodeKey: the whole. -/
import Derived.Test.YtmgnihmjjijdoaaDoorKKeyI
namespace Go.Proofs.YtmgnihmjjijdoaaDoor
open Go.RowKit
theorem keyT_cons (x : Elt) (q : List Elt) : keyT (x :: q) = bitE q (bitF x.1 x.2.1) := by rw [keyT, bitK_eq]
end Go.Proofs.YtmgnihmjjijdoaaDoor
