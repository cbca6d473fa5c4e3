/- The layings of sort.Slice (the shelf's). -/
import Derived.Test.YtahamclodagihaaGreatDoorNShelf
import Derived.Shelf.GgSortFunc.SmallK
import Derived.Shelf.GgSortFunc.Tiny
