/- The functions of package oid: Decode. -/
import Derived.Test.YtahamclodagihaaGreatDoorKGOidL
import Derived.Test.YtahamclodagihaaGreatDoorKGSplit
import Derived.Test.YtahamclodagihaaGreatDoorKGTlvA
import Derived.Deep.RegionLaw
import Derived.Lib.LaidTab
import Derived.LaidSub
import Derived.MakeChecks
namespace Go.Proofs.YtahamclodagihaaGreatDoor
open Go.RowKit
def Tb (w : World) : Prop := Lib.TabIs Tryz.prog w "internal/strconv.uint64pow10" .u64 Lib.pow10Tab
theorem info_str : (Tryz.prog.info? 9).map (fun i => (i.zero, i.size, i.bytes)) = some (some (.string ⟨#[]⟩), 1, 16) := by kernel_rfl
theorem Tb.below {w w' : World} (h : Tb w) (hb : Below w.heap.size w w') : Tb w' := by
 unfold Tb Lib.TabIs World.var? at *
 obtain ⟨g, hg, h1⟩ := Option.bind_eq_some_iff.1 h
 rw [hg, Option.bind_some]
 have hlt : g < w.heap.size := by
  rcases Nat.lt_or_ge g w.heap.size with h2 | h2
  ·exact h2
  ·rw [Array.getElem?_eq_none h2] at h1; cases h1
 rw [hb.block g hlt]
 exact h1
theorem Itoa_nat (n : Nat) (hn : n ≤ 4294967295) (w : World) (htb : Tb w) :
  Calls Tryz.prog 136 #[.int .i64 (n : Int)] w fun e w' => e = .returned (.string ⟨(decL n).toArray⟩) ∧ Below w.heap.size w w' :=
 (Tryz.strconv_Itoa (n : Int) (by omega) (by omega) w htb).mono fun e w' ⟨he, k, os, hw⟩ => by
  refine ⟨?_, by rw [hw]; exact ⟨rfl, rfl, rfl, by show w.heap.size ≤ (w.heap ++ os).size; rw [Array.size_append]; omega, fun j hj => by show (w.heap ++ os)[j]? = w.heap[j]?; exact Array.getElem?_append_left hj⟩⟩
  rw [he, Lib.itoa, if_neg (by omega), Int.toNat_natCast, decL_dig]
end Go.Proofs.YtahamclodagihaaGreatDoor
namespace Go.Proofs.YtahamclodagihaaGreatDoor
open Go.RowKit
end Go.Proofs.YtahamclodagihaaGreatDoor
namespace Go.Proofs.YtahamclodagihaaGreatDoor
open Go.RowKit
theorem gTb : Tryz.prog.globalNamed "internal/strconv.uint64pow10" = some 3 := by kernel_rfl
theorem gTbType : (Tryz.prog.globals[3]?).map (·.type) = some 255 := by kernel_rfl
theorem cellsU64 : Tryz.prog.cellsOf 195 = 1 := by kernel_rfl
theorem cellsTb : Tryz.prog.cellsOf 255 = 20 := by kernel_rfl
def isTb (x : String × DataW Unit) : Bool := x.1 == "internal/strconv.uint64pow10"
theorem tb_of {W : World} {L : List (String × DataW Unit)} (h : laidMetH Tryz.prog L W) (hn : (L.all fun x => x.2.handleName?.isNone) = true) (hf : L.filter isTb = [("internal/strconv.uint64pow10", Lib.tabData .u64 Lib.pow10Tab)]) : Tb W := by
 rw [Go.MakeChecks.laidMetH_plain _ _ _ hn] at h
 have h2 := laidMet.filter isTb h
 rw [hf] at h2
 exact Lib.tabIs_of_head (rest := []) gTb gTbType Tryz.underlying255 Tryz.underlying195 cellsU64 cellsTb h2
end Go.Proofs.YtahamclodagihaaGreatDoor
