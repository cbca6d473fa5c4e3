/- Arguments opened: names. -/
import Derived.Test.YtepibepgfackkaaDoorLibN
import Derived.Test.YtepibepgfackkaaDoorNamA
namespace Go.Proofs.YtepibepgfackkaaDoor
open Go.RowKit Go.ChangeShapes Go.WideShapes Go.ChangeAt Go.Deep

section
variable {H : Type} {enc : TypeId × Value → H} {W : World}
theorem cells_str : Tryd.prog.cellsOf 9 = 1 := by kernel_rfl
theorem cells_int : Tryd.prog.cellsOf 3 = 1 := by kernel_rfl
theorem cells_att : Tryd.prog.cellsOf 26 = 3 := by kernel_rfl
theorem cells_rdn : Tryd.prog.cellsOf 27 = 1 := by kernel_rfl
theorem cells_rdns : Tryd.prog.cellsOf 22 = 1 := by kernel_rfl
theorem cells_name : Tryd.prog.cellsOf 24 = 1 := by kernel_rfl
set_option maxRecDepth 100000 in
theorem opn_att : Opn enc Tryd.prog W 26 RAttr := fun fuel cs x h => by
  obtain ⟨xs, n, _, _, hcl, hxl, hf⟩ := DataW.trod_struct Tryd.underlying26 h
  rw [cells_att] at hcl
  have hxl3 : xs.length = 3 := hxl
  clear hxl
  match cs, hcl, xs, hxl3 with
  | [c0, c1, c2], _, [x0, x1, x2], _ =>
    have h0 : DataW.trod enc Tryd.prog W 0 (fun _ => true) true n 9 (([c0, c1, c2].drop 0).take (Tryd.prog.cellsOf 9)) = some x0 := hf 0 _ rfl
    have h1 : DataW.trod enc Tryd.prog W 0 (fun _ => true) true n 3 (([c0, c1, c2].drop 1).take (Tryd.prog.cellsOf 3)) = some x1 := hf 1 _ rfl
    have h2 : DataW.trod enc Tryd.prog W 0 (fun _ => true) true n 9 (([c0, c1, c2].drop 2).take (Tryd.prog.cellsOf 9)) = some x2 := hf 2 _ rfl
    rw [cells_str] at h0 h2
    rw [cells_int] at h1
    obtain ⟨s, hs, _⟩ := DataW.trod_string Tryd.underlying9 (cs := [c0]) h0
    obtain ⟨k, hk, _⟩ := DataW.trod_int Tryd.underlying3 (cs := [c1]) h1
    obtain ⟨u, hu, _⟩ := DataW.trod_string Tryd.underlying9 (cs := [c2]) h2
    simp only [List.cons.injEq, and_true] at hs hk hu
    subst hs hk hu
    exact ⟨(s.data.toList, k, u.data.toList), rfl⟩
set_option maxRecDepth 100000 in
theorem opn_rdn : Opn enc Tryd.prog W 27 RRdn := Opn.slice Tryd.underlying27 cells_att (by omega) RAttr.ok opn_att
set_option maxRecDepth 100000 in
theorem opn_rdns : Opn enc Tryd.prog W 22 RName := Opn.slice Tryd.underlying22 cells_rdn (by omega) RRdn.ok opn_rdn
set_option maxRecDepth 100000 in
/-- a name argument -/
theorem open_name {v : Value} {d : DataW H} {p : List MemPlace} {base : Nat} (hval : Value.okWide Tryd.prog W .any base 24 v) (h : DataW.Trod enc Tryd.prog W 0 (fun _ => true) true 24 v d p) :
    ∃ (n : Name) (A : Option Addr) (c : Nat), v = .agg #[.slice A n.length c] ∧ Sl RRdn 1 W (Lt W.heap.size) n [.slice A n.length c] := by
  obtain ⟨cs, rfl, hsz⟩ := okWide_struct Tryd.underlying24 hval
  rw [cells_name] at hsz
  obtain ⟨fuel, hf0⟩ := h
  obtain ⟨xs, n, _, _, hcl, hxl, hf⟩ := DataW.trod_struct Tryd.underlying24 hf0
  obtain ⟨l⟩ := cs
  have hxl1 : xs.length = 1 := hxl
  clear hxl
  match l, hsz, xs, hxl1 with
  | [c0], _, [x0], _ =>
    have h0 : DataW.trod enc Tryd.prog W 0 (fun _ => true) true n 22 (([c0].drop 0).take (Tryd.prog.cellsOf 22)) = some x0 := hf 0 _ rfl
    rw [cells_rdns] at h0
    obtain ⟨a, ha⟩ := opn_rdns _ [c0] _ h0
    obtain ⟨A, c, hv⟩ := ha.shape
    subst hv
    exact ⟨a, A, c, rfl, ha⟩
end
end Go.Proofs.YtepibepgfackkaaDoor
