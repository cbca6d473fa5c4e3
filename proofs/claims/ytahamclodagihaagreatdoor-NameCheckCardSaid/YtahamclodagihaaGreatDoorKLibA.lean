/- Arguments opened: an attribute. -/
import Derived.Test.YtahamclodagihaaGreatDoorKGOidD
namespace Go.Proofs.YtahamclodagihaaGreatDoor
open Go.RowKit Go.ChangeShapes Go.WideShapes Go.ChangeAt Go.Deep
section
variable {H : Type} {enc : TypeId × Value → H} {W : World}
theorem cells_atte : Tryz.prog.cellsOf 27 = 3 := by kernel_rfl
theorem cells_stra : Tryz.prog.cellsOf 9 = 1 := by kernel_rfl
theorem cells_inta : Tryz.prog.cellsOf 3 = 1 := by kernel_rfl
set_option maxRecDepth 100000 in
theorem open_att {v : Value} {d : DataW H} {p : List MemPlace} {base : Nat} (hval : Value.okWide Tryz.prog W .any base 27 v) (h : DataW.Trod enc Tryz.prog W 0 (fun _ => true) true 27 v d p) :
    ∃ (t : ByteArray) (k : Int) (s : ByteArray), v = .agg #[.string t, .int .i64 k, .string s] := by
  obtain ⟨cs, rfl, hsz⟩ := okWide_struct Tryz.underlying27 hval
  rw [cells_atte] at hsz
  obtain ⟨fuel, hf0⟩ := h
  obtain ⟨xs, n, _, _, hcl, hxl, hf⟩ := DataW.trod_struct Tryz.underlying27 hf0
  obtain ⟨l⟩ := cs
  have hxl3 : xs.length = 3 := hxl
  clear hxl
  match l, hsz, xs, hxl3 with
  | [c0, c1, c2], _, [x0, x1, x2], _ =>
    have h0 : DataW.trod enc Tryz.prog W 0 (fun _ => true) true n 9 (([c0, c1, c2].drop 0).take (Tryz.prog.cellsOf 9)) = some x0 := hf 0 _ rfl
    have h1 : DataW.trod enc Tryz.prog W 0 (fun _ => true) true n 3 (([c0, c1, c2].drop 1).take (Tryz.prog.cellsOf 3)) = some x1 := hf 1 _ rfl
    have h2 : DataW.trod enc Tryz.prog W 0 (fun _ => true) true n 9 (([c0, c1, c2].drop 2).take (Tryz.prog.cellsOf 9)) = some x2 := hf 2 _ rfl
    rw [cells_stra] at h0 h2
    rw [cells_inta] at h1
    obtain ⟨s, hs, _⟩ := DataW.trod_string Tryz.underlying9 (cs := [c0]) h0
    obtain ⟨k, hk, _⟩ := DataW.trod_int Tryz.underlying3 (cs := [c1]) h1
    obtain ⟨u, hu, _⟩ := DataW.trod_string Tryz.underlying9 (cs := [c2]) h2
    simp only [List.cons.injEq, and_true] at hk hs hu
    subst hs hk hu
    exact ⟨s, k, u, rfl⟩
end
end Go.Proofs.YtahamclodagihaaGreatDoor
