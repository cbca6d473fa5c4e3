/- What the row's list gives: the library's table of the powers of ten. -/
import Derived.Test.YtbafpgdmnkkclaaDoorOidS
import Derived.LaidSub
import Derived.MakeChecks
namespace Go.Proofs.YtbafpgdmnkkclaaDoor
open Go.RowKit

theorem gTb : Tryd.prog.globalNamed "internal/strconv.uint64pow10" = some 0 := by kernel_rfl
theorem gTbType : (Tryd.prog.globals[0]?).map (·.type) = some 128 := by kernel_rfl
theorem cellsU64 : Tryd.prog.cellsOf 114 = 1 := by kernel_rfl
theorem cellsTb : Tryd.prog.cellsOf 128 = 20 := by kernel_rfl
def isTb (x : String × DataW Unit) : Bool := x.1 == "internal/strconv.uint64pow10"
theorem tb_of {W : World} {L : List (String × DataW Unit)} (h : laidMetH Tryd.prog L W) (hn : (L.all fun x => x.2.handleName?.isNone) = true) (hf : L.filter isTb = [("internal/strconv.uint64pow10", Lib.tabData .u64 Lib.pow10Tab)]) : Tb W := by
  rw [Go.MakeChecks.laidMetH_plain _ _ _ hn] at h
  have h2 := laidMet.filter isTb h
  rw [hf] at h2
  exact Lib.tabIs_of_head (rest := []) gTb gTbType Tryd.underlying128 Tryd.underlying114 cellsU64 cellsTb h2
end Go.Proofs.YtbafpgdmnkkclaaDoor
