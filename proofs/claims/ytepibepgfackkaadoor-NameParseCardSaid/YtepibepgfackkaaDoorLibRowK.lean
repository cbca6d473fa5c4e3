/- Arguments opened: slices of integers of any kind; the library's variable MaxLen. -/
import Derived.Test.YtepibepgfackkaaDoorLibRow
import Derived.Test.YtepibepgfackkaaDoorOidB
import Derived.Shelf.Vars
namespace Go.Proofs.YtepibepgfackkaaDoor
open Go.RowKit Go.ChangeShapes Go.WideShapes Go.ChangeAt

section
variable {H : Type} {enc : TypeId × Value → H} {P : Program} {W W' : World}
abbrev RIntK (k : IntKind) : Rep Int := Pu (fun n => [.int k n])
theorem RIntK.ok (k : IntKind) : RepOk (RIntK k) 1 := Pu.ok (fun _ => rfl) (fun x u hu => by simp at hu; subst hu; rfl)
theorem open_intk {t e : TypeId} {k : IntKind} {v : Value} {d : DataW H} {p : List MemPlace} {base : Nat} (hu : P.underlying t = some (.slice e)) (he : P.underlying e = some (.int k)) (hc : P.cellsOf e = 1)
    (hval : Value.okWide P W .any base t v) (h : DataW.Trod enc P W 0 (fun _ => true) true t v d p) (_hlt : ∀ x ∈ p, x.block < W.heap.size) :
    ∃ l A n c, v = .slice A n c ∧ Sl (RIntK k) 1 W (Lt W.heap.size) l [.slice A n c] ∧ ∀ x ∈ l, (Lit.int k x).wf = true := by
  obtain ⟨A, n, c, rfl⟩ := okWide_slice hu hval
  obtain ⟨fuel, hf⟩ := h
  rcases open_ints hu he hc hf with ⟨hcs, _⟩ | ⟨a, len, cap, zs, hcs, _, hl, hm, hz, hx, hcell, hwf⟩
  · simp only [Value.cells, List.cons.injEq, Value.slice.injEq, and_true] at hcs
    obtain ⟨rfl, rfl, rfl⟩ := hcs
    exact ⟨[], none, 0, 0, rfl, Sl.nil _ _ _ _, fun x hx => by cases hx⟩
  · simp only [Value.cells, List.cons.injEq, Value.slice.injEq, and_true] at hcs
    obtain ⟨rfl, rfl, rfl⟩ := hcs
    simp only [if_true] at hz
    refine ⟨zs.take n, some a, n, c, rfl, ?_, fun x hx => hwf x (List.mem_of_mem_take hx)⟩
    have hlen : (zs.take n).length = n := by simp; omega
    refine ⟨some a, c, by rw [hlen], by rw [hlen]; exact hl, hm, fun h0 => ?_⟩
    rw [hlen] at h0
    obtain ⟨b, off, rfl, hc2⟩ := ints_at hcell (by omega)
    refine ⟨b, off, rfl, World.block_lt_of_cell? W _ (hc2 0 (by omega)), fun i x hx => ⟨_, rfl, fun j u hu => ?_⟩⟩
    have hin : i < n := by have := (List.getElem?_eq_some_iff.1 hx).1; rw [hlen] at this; exact this
    match j, hu with
    | 0, hu =>
      simp at hu
      subst hu
      rw [Nat.mul_one, Nat.add_zero, hc2 i (by omega)]
      rw [List.getElem?_take, if_pos hin] at hx
      simp [List.getD, hx]
end
theorem mx_of {W : World} (h : W.ShapedOpen Tryd.prog) : Mx W :=
  cell_of_shapedOpen_int (t := 3) (zero := #[.int .i64 0]) h (of_decide_eq_true (by kernel_rfl)) (by kernel_rfl) rfl (by kernel_rfl) (by kernel_rfl) Tryd.underlying3
end Go.Proofs.YtepibepgfackkaaDoor
