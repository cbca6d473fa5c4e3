/- Arguments opened: extensions. -/
import Derived.Test.YtiikpdjjhnhiiaaDoorLibN
import Derived.Test.YtiikpdjjhnhiiaaDoorExt1
namespace Go.Proofs.YtiikpdjjhnhiiaaDoor
open Go.RowKit Go.ChangeShapes Go.WideShapes Go.ChangeAt Go.Deep

section
variable {H : Type} {enc : TypeId × Value → H} {W : World}
theorem cells_ext : Tryd.prog.cellsOf 49 = 3 := by kernel_rfl
theorem cells_strx : Tryd.prog.cellsOf 9 = 1 := by kernel_rfl
theorem cells_boolx : Tryd.prog.cellsOf 4 = 1 := by kernel_rfl
set_option maxRecDepth 100000 in
theorem opn_ext : Opn enc Tryd.prog W 49 RExt := fun fuel cs x h => by
  obtain ⟨xs, n, _, _, hcl, hxl, hf⟩ := DataW.trod_struct Tryd.underlying49 h
  rw [cells_ext] at hcl
  have hxl3 : xs.length = 3 := hxl
  clear hxl
  match cs, hcl, xs, hxl3 with
  | [c0, c1, c2], _, [x0, x1, x2], _ =>
    have h0 : DataW.trod enc Tryd.prog W 0 (fun _ => true) true n 9 (([c0, c1, c2].drop 0).take (Tryd.prog.cellsOf 9)) = some x0 := hf 0 _ rfl
    have h1 : DataW.trod enc Tryd.prog W 0 (fun _ => true) true n 4 (([c0, c1, c2].drop 1).take (Tryd.prog.cellsOf 4)) = some x1 := hf 1 _ rfl
    have h2 : DataW.trod enc Tryd.prog W 0 (fun _ => true) true n 9 (([c0, c1, c2].drop 2).take (Tryd.prog.cellsOf 9)) = some x2 := hf 2 _ rfl
    rw [cells_strx] at h0 h2
    rw [cells_boolx] at h1
    obtain ⟨s, hs, _⟩ := DataW.trod_string Tryd.underlying9 (cs := [c0]) h0
    obtain ⟨k, hk, _⟩ := DataW.trod_bool Tryd.underlying4 (cs := [c1]) h1
    obtain ⟨u, hu, _⟩ := DataW.trod_string Tryd.underlying9 (cs := [c2]) h2
    simp only [List.cons.injEq, and_true] at hs hk hu
    subst hs hk hu
    exact ⟨(s.data.toList, k, u.data.toList), rfl⟩
set_option maxRecDepth 100000 in
theorem opn_exts : Opn enc Tryd.prog W 50 (Sl RExt 3) := Opn.slice Tryd.underlying50 cells_ext (by omega) RExt.ok opn_ext
set_option maxRecDepth 100000 in
/-- an argument that is a slice of extensions -/
theorem open_exts {v : Value} {d : DataW H} {p : List MemPlace} {base : Nat} (hval : Value.okWide Tryd.prog W .any base 50 v) (h : DataW.Trod enc Tryd.prog W 0 (fun _ => true) true 50 v d p) :
    ∃ (l : List Ext) (A : Option Addr) (c : Nat), v = .slice A l.length c ∧ Sl RExt 3 W (Lt W.heap.size) l [.slice A l.length c] := by
  obtain ⟨a, len, cap, rfl⟩ := okWide_slice Tryd.underlying50 hval
  obtain ⟨fuel, hf0⟩ := h
  obtain ⟨l, hl⟩ := opn_exts fuel [.slice a len cap] _ hf0
  obtain ⟨rfl, -, -⟩ := hl.len_
  exact ⟨l, a, cap, rfl, hl⟩
end
end Go.Proofs.YtiikpdjjhnhiiaaDoor
