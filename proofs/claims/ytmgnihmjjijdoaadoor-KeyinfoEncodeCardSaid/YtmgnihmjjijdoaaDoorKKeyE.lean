/- Bits of a bit string: the reference's Bits. -/
import Derived.Test.YtmgnihmjjijdoaaDoorKKeyD
import Derived.BigRegion
namespace Go.Proofs.YtmgnihmjjijdoaaDoor
open Go.RowKit
end Go.Proofs.YtmgnihmjjijdoaaDoor
