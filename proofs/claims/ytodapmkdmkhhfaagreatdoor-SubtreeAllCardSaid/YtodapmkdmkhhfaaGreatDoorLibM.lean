/- Arguments opened: names. -/
import Derived.Test.YtodapmkdmkhhfaaGreatDoorLibN
import Derived.Test.YtodapmkdmkhhfaaGreatDoorNamA
namespace Go.Proofs.YtodapmkdmkhhfaaGreatDoor
open Go.RowKit Go.ChangeShapes Go.WideShapes Go.ChangeAt Go.Deep

section
variable {H : Type} {enc : TypeId × Value → H} {W : World}
theorem cells_str : Tryz.prog.cellsOf 9 = 1 := by kernel_rfl
theorem cells_int : Tryz.prog.cellsOf 3 = 1 := by kernel_rfl
theorem cells_att : Tryz.prog.cellsOf 74 = 3 := by kernel_rfl
theorem cells_rdn : Tryz.prog.cellsOf 72 = 1 := by kernel_rfl
theorem cells_rdns : Tryz.prog.cellsOf 28 = 1 := by kernel_rfl
theorem cells_name : Tryz.prog.cellsOf 30 = 1 := by kernel_rfl
set_option maxRecDepth 100000 in
theorem opn_att : Opn enc Tryz.prog W 74 RAttr := fun fuel cs x h => by
  obtain ⟨xs, n, _, _, hcl, hxl, hf⟩ := DataW.trod_struct Tryz.underlying74 h
  rw [cells_att] at hcl
  have hxl3 : xs.length = 3 := hxl
  clear hxl
  match cs, hcl, xs, hxl3 with
  | [c0, c1, c2], _, [x0, x1, x2], _ =>
    have h0 : DataW.trod enc Tryz.prog W 0 (fun _ => true) true n 9 (([c0, c1, c2].drop 0).take (Tryz.prog.cellsOf 9)) = some x0 := hf 0 _ rfl
    have h1 : DataW.trod enc Tryz.prog W 0 (fun _ => true) true n 3 (([c0, c1, c2].drop 1).take (Tryz.prog.cellsOf 3)) = some x1 := hf 1 _ rfl
    have h2 : DataW.trod enc Tryz.prog W 0 (fun _ => true) true n 9 (([c0, c1, c2].drop 2).take (Tryz.prog.cellsOf 9)) = some x2 := hf 2 _ rfl
    rw [cells_str] at h0 h2
    rw [cells_int] at h1
    obtain ⟨s, hs, _⟩ := DataW.trod_string Tryz.underlying9 (cs := [c0]) h0
    obtain ⟨k, hk, _⟩ := DataW.trod_int Tryz.underlying3 (cs := [c1]) h1
    obtain ⟨u, hu, _⟩ := DataW.trod_string Tryz.underlying9 (cs := [c2]) h2
    simp only [List.cons.injEq, and_true] at hs hk hu
    subst hs hk hu
    exact ⟨(s.data.toList, k, u.data.toList), rfl⟩
set_option maxRecDepth 100000 in
theorem opn_rdn : Opn enc Tryz.prog W 72 RRdn := Opn.slice Tryz.underlying72 cells_att (by omega) RAttr.ok opn_att
set_option maxRecDepth 100000 in
theorem opn_rdns : Opn enc Tryz.prog W 28 RName := Opn.slice Tryz.underlying28 cells_rdn (by omega) RRdn.ok opn_rdn
set_option maxRecDepth 100000 in
/-- a name argument -/
theorem open_name {v : Value} {d : DataW H} {p : List MemPlace} {base : Nat} (hval : Value.okWide Tryz.prog W .any base 30 v) (h : DataW.Trod enc Tryz.prog W 0 (fun _ => true) true 30 v d p) :
    ∃ (n : Name) (A : Option Addr) (c : Nat), v = .agg #[.slice A n.length c] ∧ Sl RRdn 1 W (Lt W.heap.size) n [.slice A n.length c] := by
  obtain ⟨cs, rfl, hsz⟩ := okWide_struct Tryz.underlying30 hval
  rw [cells_name] at hsz
  obtain ⟨fuel, hf0⟩ := h
  obtain ⟨xs, n, _, _, hcl, hxl, hf⟩ := DataW.trod_struct Tryz.underlying30 hf0
  obtain ⟨l⟩ := cs
  have hxl1 : xs.length = 1 := hxl
  clear hxl
  match l, hsz, xs, hxl1 with
  | [c0], _, [x0], _ =>
    have h0 : DataW.trod enc Tryz.prog W 0 (fun _ => true) true n 28 (([c0].drop 0).take (Tryz.prog.cellsOf 28)) = some x0 := hf 0 _ rfl
    rw [cells_rdns] at h0
    obtain ⟨a, ha⟩ := opn_rdns _ [c0] _ h0
    obtain ⟨A, c, hv⟩ := ha.shape
    subst hv
    exact ⟨a, A, c, rfl, ha⟩
end
end Go.Proofs.YtodapmkdmkhhfaaGreatDoor
