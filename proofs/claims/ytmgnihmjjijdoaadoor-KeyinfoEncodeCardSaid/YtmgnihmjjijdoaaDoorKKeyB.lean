/- The reference's CheckAlgorithm. -/
import Derived.Test.YtmgnihmjjijdoaaDoorKKeyA
namespace Go.Proofs.YtmgnihmjjijdoaaDoor
open Go.RowKit
end Go.Proofs.YtmgnihmjjijdoaaDoor
