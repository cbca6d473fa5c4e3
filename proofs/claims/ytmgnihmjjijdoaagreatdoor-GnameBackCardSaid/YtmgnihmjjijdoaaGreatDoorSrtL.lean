/- The layings of sort.Slice (the shelf's). -/
import Derived.Test.YtmgnihmjjijdoaaGreatDoorShelf
import Derived.Shelf.GgSortFunc.SmallK
import Derived.Shelf.GgSortFunc.Tiny
