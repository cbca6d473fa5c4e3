/- From a walk to a row: a law that returns true and turns nothing that was there; the arguments opened. -/
import Derived.Test.YtbafpgdmnkkclaaDoorLib
import Derived.Test.YtbafpgdmnkkclaaDoorRows
import Derived.ProofKit
import Derived.OpenShut
import Derived.Test.YtbafpgdmnkkclaaDoorOid1
import Derived.Shelf.Vars
namespace Go.Proofs.YtbafpgdmnkkclaaDoor
open Go.RowKit Go.ChangeShapes Go.WideShapes Go.ChangeAt
open Go.ChangeMaps (open_string)

section
variable {H : Type} {enc : TypeId × Value → H} {P : Program} {W W' : World}

theorem trodAll_below (hl : laidOutB P = true) : ∀ (ts : List TypeId) (vs : List Value) (ds : List (DataW H)) (p : List MemPlace), (∀ t ∈ ts, P.readableRec t = true ∧ t < P.types.size) →
    DataW.TrodAll enc P W 0 (fun _ => true) true ts vs ds p → Below W.heap.size W W' → (∀ x ∈ p, x.block < W.heap.size) → DataW.TrodAll enc P W' 0 (fun b => decide (b < W.heap.size)) true ts vs ds p
  | [], [], [], p, _, h, _, _ => h
  | t :: ts, v :: vs, d :: ds, p, hr, h, hb, hlt => by
    obtain ⟨p1, q1, h1, h2, rfl⟩ := h
    have ht := hr t (by simp)
    exact ⟨p1, q1, Below.trod hl ht.1 ht.2 h1 hb (fun x hx => hlt x (by simp [hx])), trodAll_below hl ts vs ds q1 (fun t' ht' => hr t' (by simp [ht'])) h2 hb (fun x hx => hlt x (by simp [hx])), rfl⟩
  | [], [], _ :: _, _, _, h, _, _ => h.elim
  | [], _ :: _, _, _, _, h, _, _ => h.elim
  | _ :: _, [], _, _, _, h, _, _ => h.elim
  | _ :: _, _ :: _, [], _, _, h, _, _ => h.elim

/-- what a law's row asks behind the call -/
theorem law_post {f : Func} {s : ChangeSpec} {args : Array Value} {ds gs : List (DataW H)} {before : List MemPlace} {tb : TypeId} (hl : laidOutB P = true) (hrd : ∀ t ∈ f.params.toList, P.readableRec t = true ∧ t < P.types.size)
    (hvars : s.vars = []) (hres : f.resultTypes = #[tb]) (htb : P.underlying tb = some .bool)
    (hW : DataW.Whole enc P f.params.toList s.vars false W args.toList ds gs before)
    (hfn : s.fn H (ds ++ gs) = { results := [.lit (.bool true)], args := ds }) (hb : Below W.heap.size W W') :
    s.post enc P f false true false false W args (.bool true) W' := by
  have hlt : ∀ x ∈ before, x.block < W.heap.size := fun x hx => hW.lt x hx
  have hW2 := hW
  obtain ⟨p, q, hA, hV, rfl, _, _⟩ := hW
  rw [hvars] at hV
  obtain ⟨rfl, rfl⟩ := trodVars_none hV
  rw [List.append_nil] at hlt
  refine ⟨ds, [], p ++ [], [], p, [], hW2, ?_, ?_, ?_, hb.frame _, fun h => by cases h⟩
  · rw [hres, hfn]
    exact trodAll_mk1 (shut_bool htb true)
  · rw [hfn]
    exact trodAll_below hl _ _ _ _ hrd hA hb hlt
  · rw [hvars, hfn]
    exact rfl

/-- a []byte argument -/
theorem open_bytes {t e : TypeId} {v : Value} {d : DataW H} {p : List MemPlace} {base : Nat} (hu : P.underlying t = some (.slice e)) (he : P.underlying e = some (.int .u8)) (hc : P.cellsOf e = 1)
    (hval : Value.okWide P W .any base t v) (h : DataW.Trod enc P W 0 (fun _ => true) true t v d p) (_hlt : ∀ x ∈ p, x.block < W.heap.size) : ∃ l A n c, v = .slice A n c ∧ Sl RByte 1 W (Lt W.heap.size) l [.slice A n c] := by
  obtain ⟨A, n, c, rfl⟩ := okWide_slice hu hval
  obtain ⟨fuel, hf⟩ := h
  rcases open_ints hu he hc hf with ⟨hcs, _⟩ | ⟨a, len, cap, zs, hcs, _, hl, hm, hz, hx, hcell, hwf⟩
  · simp only [Value.cells, List.cons.injEq, Value.slice.injEq, and_true] at hcs
    obtain ⟨rfl, rfl, rfl⟩ := hcs
    exact ⟨[], none, 0, 0, rfl, Sl.nil _ _ _ _⟩
  · simp only [Value.cells, List.cons.injEq, Value.slice.injEq, and_true] at hcs
    obtain ⟨rfl, rfl, rfl⟩ := hcs
    simp only [if_true] at hz
    refine ⟨(zs.take n).map fun z => UInt8.ofNat z.toNat, some a, n, c, rfl, ?_⟩
    have hlen : ((zs.take n).map fun z => UInt8.ofNat z.toNat).length = n := by simp; omega
    refine ⟨some a, c, by rw [hlen], by rw [hlen]; exact hl, hm, fun h0 => ?_⟩
    rw [hlen] at h0
    obtain ⟨b, off, rfl, hc2⟩ := ints_at hcell (by omega)
    refine ⟨b, off, rfl, World.block_lt_of_cell? W _ (hc2 0 (by omega)), fun i x hx => ⟨byteC x, rfl, fun j u hu => ?_⟩⟩
    have hin : i < n := by have := (List.getElem?_eq_some_iff.1 hx).1; rw [hlen] at this; exact this
    match j, hu with
    | 0, hu =>
      simp [byteC] at hu
      subst hu
      rw [Nat.mul_one, Nat.add_zero, hc2 i (by omega)]
      have hzi : zs[i]? = some (zs.getD i 0) := by rw [List.getElem?_eq_getElem (by omega)]; simp [List.getD, List.getElem?_eq_getElem (show i < zs.length by omega)]
      have hw := hwf (zs.getD i 0) (List.mem_iff_getElem?.2 ⟨i, hzi⟩)
      have hbd : 0 ≤ zs.getD i 0 ∧ zs.getD i 0 ≤ 255 := by simpa [Lit.wf, IntKind.min, IntKind.max, IntKind.signed, IntKind.bits] using hw
      rw [List.getElem?_map, List.getElem?_take, if_pos hin, hzi] at hx
      simp only [Option.map_some, Option.some.injEq] at hx
      subst hx
      rw [UInt8.toNat_ofNat']
      congr 2
      omega
end
end Go.Proofs.YtbafpgdmnkkclaaDoor

/- Arguments opened: slices of integers of any kind; the library's variable MaxLen. -/
namespace Go.Proofs.YtbafpgdmnkkclaaDoor
open Go.RowKit Go.ChangeShapes Go.WideShapes Go.ChangeAt

section
variable {H : Type} {enc : TypeId × Value → H} {P : Program} {W W' : World}
abbrev RIntK (k : IntKind) : Rep Int := Pu (fun n => [.int k n])
theorem RIntK.ok (k : IntKind) : RepOk (RIntK k) 1 := Pu.ok (fun _ => rfl) (fun x u hu => by simp at hu; subst hu; rfl)
theorem open_intk {t e : TypeId} {k : IntKind} {v : Value} {d : DataW H} {p : List MemPlace} {base : Nat} (hu : P.underlying t = some (.slice e)) (he : P.underlying e = some (.int k)) (hc : P.cellsOf e = 1)
    (hval : Value.okWide P W .any base t v) (h : DataW.Trod enc P W 0 (fun _ => true) true t v d p) (_hlt : ∀ x ∈ p, x.block < W.heap.size) :
    ∃ l A n c, v = .slice A n c ∧ Sl (RIntK k) 1 W (Lt W.heap.size) l [.slice A n c] ∧ ∀ x ∈ l, (Lit.int k x).wf = true := by
  obtain ⟨A, n, c, rfl⟩ := okWide_slice hu hval
  obtain ⟨fuel, hf⟩ := h
  rcases open_ints hu he hc hf with ⟨hcs, _⟩ | ⟨a, len, cap, zs, hcs, _, hl, hm, hz, hx, hcell, hwf⟩
  · simp only [Value.cells, List.cons.injEq, Value.slice.injEq, and_true] at hcs
    obtain ⟨rfl, rfl, rfl⟩ := hcs
    exact ⟨[], none, 0, 0, rfl, Sl.nil _ _ _ _, fun x hx => by cases hx⟩
  · simp only [Value.cells, List.cons.injEq, Value.slice.injEq, and_true] at hcs
    obtain ⟨rfl, rfl, rfl⟩ := hcs
    simp only [if_true] at hz
    refine ⟨zs.take n, some a, n, c, rfl, ?_, fun x hx => hwf x (List.mem_of_mem_take hx)⟩
    have hlen : (zs.take n).length = n := by simp; omega
    refine ⟨some a, c, by rw [hlen], by rw [hlen]; exact hl, hm, fun h0 => ?_⟩
    rw [hlen] at h0
    obtain ⟨b, off, rfl, hc2⟩ := ints_at hcell (by omega)
    refine ⟨b, off, rfl, World.block_lt_of_cell? W _ (hc2 0 (by omega)), fun i x hx => ⟨_, rfl, fun j u hu => ?_⟩⟩
    have hin : i < n := by have := (List.getElem?_eq_some_iff.1 hx).1; rw [hlen] at this; exact this
    match j, hu with
    | 0, hu =>
      simp at hu
      subst hu
      rw [Nat.mul_one, Nat.add_zero, hc2 i (by omega)]
      rw [List.getElem?_take, if_pos hin] at hx
      simp [List.getD, hx]
end
theorem mx_of {W : World} (h : W.ShapedOpen Tryd.prog) : Mx W :=
  cell_of_shapedOpen_int (t := 3) (zero := #[.int .i64 0]) h (of_decide_eq_true (by kernel_rfl)) (by kernel_rfl) rfl (by kernel_rfl) (by kernel_rfl) Tryd.underlying3
end Go.Proofs.YtbafpgdmnkkclaaDoor
