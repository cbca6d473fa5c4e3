/- Arguments opened: a key. -/
import Derived.Test.YtmgnihmjjijdoaaDoorKGOidD
namespace Go.Proofs.YtmgnihmjjijdoaaDoor
open Go.RowKit Go.ChangeShapes Go.WideShapes Go.ChangeAt Go.Deep
section
variable {H : Type} {enc : TypeId × Value → H} {W : World}
theorem cells_keyk : Tryd.prog.cellsOf 23 = 3 := by kernel_rfl
theorem cells_strk : Tryd.prog.cellsOf 9 = 1 := by kernel_rfl
theorem cells_intk : Tryd.prog.cellsOf 3 = 1 := by kernel_rfl
set_option maxRecDepth 100000 in
theorem open_key {v : Value} {d : DataW H} {p : List MemPlace} {base : Nat} (hval : Value.okWide Tryd.prog W .any base 23 v) (h : DataW.Trod enc Tryd.prog W 0 (fun _ => true) true 23 v d p) :
    ∃ (t : Int) (c r : ByteArray), v = .agg #[.int .i64 t, .string c, .string r] := by
  obtain ⟨cs, rfl, hsz⟩ := okWide_struct Tryd.underlying23 hval
  rw [cells_keyk] at hsz
  obtain ⟨fuel, hf0⟩ := h
  obtain ⟨xs, n, _, _, hcl, hxl, hf⟩ := DataW.trod_struct Tryd.underlying23 hf0
  obtain ⟨l⟩ := cs
  have hxl3 : xs.length = 3 := hxl
  clear hxl
  match l, hsz, xs, hxl3 with
  | [c0, c1, c2], _, [x0, x1, x2], _ =>
    have h0 : DataW.trod enc Tryd.prog W 0 (fun _ => true) true n 3 (([c0, c1, c2].drop 0).take (Tryd.prog.cellsOf 3)) = some x0 := hf 0 _ rfl
    have h1 : DataW.trod enc Tryd.prog W 0 (fun _ => true) true n 9 (([c0, c1, c2].drop 1).take (Tryd.prog.cellsOf 9)) = some x1 := hf 1 _ rfl
    have h2 : DataW.trod enc Tryd.prog W 0 (fun _ => true) true n 9 (([c0, c1, c2].drop 2).take (Tryd.prog.cellsOf 9)) = some x2 := hf 2 _ rfl
    rw [cells_intk] at h0
    rw [cells_strk] at h1 h2
    obtain ⟨k, hk, _⟩ := DataW.trod_int Tryd.underlying3 (cs := [c0]) h0
    obtain ⟨s, hs, _⟩ := DataW.trod_string Tryd.underlying9 (cs := [c1]) h1
    obtain ⟨u, hu, _⟩ := DataW.trod_string Tryd.underlying9 (cs := [c2]) h2
    simp only [List.cons.injEq, and_true] at hk hs hu
    subst hk hs hu
    exact ⟨k, s, u, rfl⟩
end
end Go.Proofs.YtmgnihmjjijdoaaDoor
