/- What the row's list gives: the library's table of the powers of ten. -/
import Derived.Test.YtbafpgdmnkkclaaGreatDoorOidS
import Derived.LaidSub
import Derived.MakeChecks
namespace Go.Proofs.YtbafpgdmnkkclaaGreatDoor
open Go.RowKit

theorem gTb : Tryz.prog.globalNamed "internal/strconv.uint64pow10" = some 3 := by kernel_rfl
theorem gTbType : (Tryz.prog.globals[3]?).map (·.type) = some 198 := by kernel_rfl
theorem cellsU64 : Tryz.prog.cellsOf 147 = 1 := by kernel_rfl
theorem cellsTb : Tryz.prog.cellsOf 198 = 20 := by kernel_rfl
def isTb (x : String × DataW Unit) : Bool := x.1 == "internal/strconv.uint64pow10"
theorem tb_of {W : World} {L : List (String × DataW Unit)} (h : laidMetH Tryz.prog L W) (hn : (L.all fun x => x.2.handleName?.isNone) = true) (hf : L.filter isTb = [("internal/strconv.uint64pow10", Lib.tabData .u64 Lib.pow10Tab)]) : Tb W := by
  rw [Go.MakeChecks.laidMetH_plain _ _ _ hn] at h
  have h2 := laidMet.filter isTb h
  rw [hf] at h2
  exact Lib.tabIs_of_head (rest := []) gTb gTbType Tryz.underlying198 Tryz.underlying147 cellsU64 cellsTb h2
end Go.Proofs.YtbafpgdmnkkclaaGreatDoor
