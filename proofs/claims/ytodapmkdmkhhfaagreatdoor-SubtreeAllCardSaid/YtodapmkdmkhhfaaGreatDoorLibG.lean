/- Arguments opened: general names. -/
import Derived.Test.YtodapmkdmkhhfaaGreatDoorLibM
import Derived.Test.YtodapmkdmkhhfaaGreatDoorGn1
namespace Go.Proofs.YtodapmkdmkhhfaaGreatDoor
open Go.RowKit Go.ChangeShapes Go.WideShapes Go.ChangeAt Go.Deep

section
variable {H : Type} {enc : TypeId × Value → H} {W : World}
theorem cells_gen : Tryz.prog.cellsOf 32 = 3 := by kernel_rfl
theorem cells_gens : Tryz.prog.cellsOf 25 = 1 := by kernel_rfl
set_option maxRecDepth 100000 in
theorem opn_name : Opn enc Tryz.prog W 30 RName := fun fuel cs x h => by
  obtain ⟨xs, n, _, _, hcl, hxl, hf⟩ := DataW.trod_struct Tryz.underlying30 h
  rw [cells_name] at hcl
  have hxl1 : xs.length = 1 := hxl
  clear hxl
  match cs, hcl, xs, hxl1 with
  | [c0], _, [x0], _ =>
    have h0 : DataW.trod enc Tryz.prog W 0 (fun _ => true) true n 28 (([c0].drop 0).take (Tryz.prog.cellsOf 28)) = some x0 := hf 0 _ rfl
    rw [cells_rdns] at h0
    obtain ⟨a, ha⟩ := opn_rdns _ [c0] _ h0
    exact ⟨a, ha⟩
set_option maxRecDepth 100000 in
theorem opn_gen : Opn enc Tryz.prog W 32 RGen := fun fuel cs x h => by
  obtain ⟨xs, n, _, _, hcl, hxl, hf⟩ := DataW.trod_struct Tryz.underlying32 h
  rw [cells_gen] at hcl
  have hxl3 : xs.length = 3 := hxl
  clear hxl
  match cs, hcl, xs, hxl3 with
  | [c0, c1, c2], _, [x0, x1, x2], _ =>
    have h0 : DataW.trod enc Tryz.prog W 0 (fun _ => true) true n 3 (([c0, c1, c2].drop 0).take (Tryz.prog.cellsOf 3)) = some x0 := hf 0 _ rfl
    have h1 : DataW.trod enc Tryz.prog W 0 (fun _ => true) true n 9 (([c0, c1, c2].drop 1).take (Tryz.prog.cellsOf 9)) = some x1 := hf 1 _ rfl
    have h2 : DataW.trod enc Tryz.prog W 0 (fun _ => true) true n 30 (([c0, c1, c2].drop 2).take (Tryz.prog.cellsOf 30)) = some x2 := hf 2 _ rfl
    rw [cells_int] at h0
    rw [cells_str] at h1
    rw [cells_name] at h2
    obtain ⟨k, hk, _⟩ := DataW.trod_int Tryz.underlying3 (cs := [c0]) h0
    obtain ⟨s, hs, _⟩ := DataW.trod_string Tryz.underlying9 (cs := [c1]) h1
    obtain ⟨a, ha⟩ := opn_name _ [c2] _ h2
    simp only [List.cons.injEq, and_true] at hk hs
    subst hk hs
    exact ⟨(k, s.data.toList, a), c2, rfl, ha⟩
set_option maxRecDepth 100000 in
theorem opn_gens : Opn enc Tryz.prog W 25 (Sl RGen 3) := Opn.slice Tryz.underlying25 cells_gen (by omega) RGen.ok opn_gen
set_option maxRecDepth 100000 in
/-- an argument that is a slice of general names -/
theorem open_gens {v : Value} {d : DataW H} {p : List MemPlace} {base : Nat} (hval : Value.okWide Tryz.prog W .any base 25 v) (h : DataW.Trod enc Tryz.prog W 0 (fun _ => true) true 25 v d p) :
    ∃ (l : List Gen) (A : Option Addr) (c : Nat), v = .slice A l.length c ∧ Sl RGen 3 W (Lt W.heap.size) l [.slice A l.length c] := by
  obtain ⟨a, len, cap, rfl⟩ := okWide_slice Tryz.underlying25 hval
  obtain ⟨fuel, hf0⟩ := h
  obtain ⟨l, hl⟩ := opn_gens fuel [.slice a len cap] _ hf0
  obtain ⟨rfl, -, -⟩ := hl.len_
  exact ⟨l, a, cap, rfl, hl⟩
end
end Go.Proofs.YtodapmkdmkhhfaaGreatDoor
