/- What the laws' rows need. -/
import Derived.Test.YtmgnihmjjijdoaaGreatDoorGTxtJ
import Derived.Test.YtmgnihmjjijdoaaGreatDoorGOidD
import Derived.Test.YtmgnihmjjijdoaaGreatDoorLib
import Derived.Test.YtmgnihmjjijdoaaGreatDoorRows
import Derived.ProofKit
import Derived.OpenShut
import Derived.Test.YtmgnihmjjijdoaaGreatDoorGSplit
import Derived.Shelf.Vars
import Derived.Deep.Slices
import Derived.Test.YtmgnihmjjijdoaaGreatDoorGHosI
import Derived.Test.YtmgnihmjjijdoaaGreatDoorGGnC
import Derived.Test.YtmgnihmjjijdoaaGreatDoorGOidS
import Derived.LaidSub
import Derived.MakeChecks
namespace Go.Proofs.YtmgnihmjjijdoaaGreatDoor
open Go.RowKit
section
open Go.RowKit
abbrev RName : Rep Name := Sl RRdn 1
end
section
open Go.RowKit Go.ChangeShapes Go.WideShapes Go.ChangeAt
open Go.ChangeMaps (open_string)
variable {H : Type} {enc : TypeId × Value → H} {P : Program} {W W' : World}

theorem trodAll_below (hl : laidOutB P = true) : ∀ (ts : List TypeId) (vs : List Value) (ds : List (DataW H)) (p : List MemPlace), (∀ t ∈ ts, P.readableRec t = true ∧ t < P.types.size) →
    DataW.TrodAll enc P W 0 (fun _ => true) true ts vs ds p → Below W.heap.size W W' → (∀ x ∈ p, x.block < W.heap.size) → DataW.TrodAll enc P W' 0 (fun b => decide (b < W.heap.size)) true ts vs ds p
  | [], [], [], p, _, h, _, _ => h
  | t :: ts, v :: vs, d :: ds, p, hr, h, hb, hlt => by
    obtain ⟨p1, q1, h1, h2, rfl⟩ := h
    have ht := hr t (by simp)
    exact ⟨p1, q1, Below.trod hl ht.1 ht.2 h1 hb (fun x hx => hlt x (by simp [hx])), trodAll_below hl ts vs ds q1 (fun t' ht' => hr t' (by simp [ht'])) h2 hb (fun x hx => hlt x (by simp [hx])), rfl⟩
  | [], [], _ :: _, _, _, h, _, _ => h.elim
  | [], _ :: _, _, _, _, h, _, _ => h.elim
  | _ :: _, [], _, _, _, h, _, _ => h.elim
  | _ :: _, _ :: _, [], _, _, h, _, _ => h.elim

/-- what a law's row asks behind the call -/
theorem law_post {f : Func} {s : ChangeSpec} {args : Array Value} {ds gs : List (DataW H)} {before : List MemPlace} {tb : TypeId} (hl : laidOutB P = true) (hrd : ∀ t ∈ f.params.toList, P.readableRec t = true ∧ t < P.types.size)
    (hvars : s.vars = []) (hres : f.resultTypes = #[tb]) (htb : P.underlying tb = some .bool)
    (hW : DataW.Whole enc P f.params.toList s.vars false W args.toList ds gs before)
    (hfn : s.fn H (ds ++ gs) = { results := [.lit (.bool true)], args := ds }) (hb : Below W.heap.size W W') :
    s.post enc P f false true false false W args (.bool true) W' := by
  have hlt : ∀ x ∈ before, x.block < W.heap.size := fun x hx => hW.lt x hx
  have hW2 := hW
  obtain ⟨p, q, hA, hV, rfl, _, _⟩ := hW
  rw [hvars] at hV
  obtain ⟨rfl, rfl⟩ := trodVars_none hV
  rw [List.append_nil] at hlt
  refine ⟨ds, [], p ++ [], [], p, [], hW2, ?_, ?_, ?_, hb.frame _, fun h => by cases h⟩
  · rw [hres, hfn]
    exact trodAll_mk1 (shut_bool htb true)
  · rw [hfn]
    exact trodAll_below hl _ _ _ _ hrd hA hb hlt
  · rw [hvars, hfn]
    exact rfl

/-- a []byte argument -/
theorem open_bytes {t e : TypeId} {v : Value} {d : DataW H} {p : List MemPlace} {base : Nat} (hu : P.underlying t = some (.slice e)) (he : P.underlying e = some (.int .u8)) (hc : P.cellsOf e = 1)
    (hval : Value.okWide P W .any base t v) (h : DataW.Trod enc P W 0 (fun _ => true) true t v d p) (_hlt : ∀ x ∈ p, x.block < W.heap.size) : ∃ l A n c, v = .slice A n c ∧ Sl RByte 1 W (Lt W.heap.size) l [.slice A n c] := by
  obtain ⟨A, n, c, rfl⟩ := okWide_slice hu hval
  obtain ⟨fuel, hf⟩ := h
  rcases open_ints hu he hc hf with ⟨hcs, _⟩ | ⟨a, len, cap, zs, hcs, _, hl, hm, hz, hx, hcell, hwf⟩
  · simp only [Value.cells, List.cons.injEq, Value.slice.injEq, and_true] at hcs
    obtain ⟨rfl, rfl, rfl⟩ := hcs
    exact ⟨[], none, 0, 0, rfl, Sl.nil _ _ _ _⟩
  · simp only [Value.cells, List.cons.injEq, Value.slice.injEq, and_true] at hcs
    obtain ⟨rfl, rfl, rfl⟩ := hcs
    simp only [if_true] at hz
    refine ⟨(zs.take n).map fun z => UInt8.ofNat z.toNat, some a, n, c, rfl, ?_⟩
    have hlen : ((zs.take n).map fun z => UInt8.ofNat z.toNat).length = n := by simp; omega
    refine ⟨some a, c, by rw [hlen], by rw [hlen]; exact hl, hm, fun h0 => ?_⟩
    rw [hlen] at h0
    obtain ⟨b, off, rfl, hc2⟩ := ints_at hcell (by omega)
    refine ⟨b, off, rfl, World.block_lt_of_cell? W _ (hc2 0 (by omega)), fun i x hx => ⟨byteC x, rfl, fun j u hu => ?_⟩⟩
    have hin : i < n := by have := (List.getElem?_eq_some_iff.1 hx).1; rw [hlen] at this; exact this
    match j, hu with
    | 0, hu =>
      simp [byteC] at hu
      subst hu
      rw [Nat.mul_one, Nat.add_zero, hc2 i (by omega)]
      have hzi : zs[i]? = some (zs.getD i 0) := by rw [List.getElem?_eq_getElem (by omega)]; simp [List.getD, List.getElem?_eq_getElem (show i < zs.length by omega)]
      have hw := hwf (zs.getD i 0) (List.mem_iff_getElem?.2 ⟨i, hzi⟩)
      have hbd : 0 ≤ zs.getD i 0 ∧ zs.getD i 0 ≤ 255 := by simpa [Lit.wf, IntKind.min, IntKind.max, IntKind.signed, IntKind.bits] using hw
      rw [List.getElem?_map, List.getElem?_take, if_pos hin, hzi] at hx
      simp only [Option.map_some, Option.some.injEq] at hx
      subst hx
      rw [UInt8.toNat_ofNat']
      congr 2
      omega
end
section
open Go.RowKit Go.ChangeShapes Go.WideShapes Go.ChangeAt
variable {H : Type} {enc : TypeId × Value → H} {P : Program} {W W' : World}
abbrev RIntK (k : IntKind) : Rep Int := Pu (fun n => [.int k n])
theorem open_intk {t e : TypeId} {k : IntKind} {v : Value} {d : DataW H} {p : List MemPlace} {base : Nat} (hu : P.underlying t = some (.slice e)) (he : P.underlying e = some (.int k)) (hc : P.cellsOf e = 1)
    (hval : Value.okWide P W .any base t v) (h : DataW.Trod enc P W 0 (fun _ => true) true t v d p) (_hlt : ∀ x ∈ p, x.block < W.heap.size) :
    ∃ l A n c, v = .slice A n c ∧ Sl (RIntK k) 1 W (Lt W.heap.size) l [.slice A n c] ∧ ∀ x ∈ l, (Lit.int k x).wf = true := by
  obtain ⟨A, n, c, rfl⟩ := okWide_slice hu hval
  obtain ⟨fuel, hf⟩ := h
  rcases open_ints hu he hc hf with ⟨hcs, _⟩ | ⟨a, len, cap, zs, hcs, _, hl, hm, hz, hx, hcell, hwf⟩
  · simp only [Value.cells, List.cons.injEq, Value.slice.injEq, and_true] at hcs
    obtain ⟨rfl, rfl, rfl⟩ := hcs
    exact ⟨[], none, 0, 0, rfl, Sl.nil _ _ _ _, fun x hx => by cases hx⟩
  · simp only [Value.cells, List.cons.injEq, Value.slice.injEq, and_true] at hcs
    obtain ⟨rfl, rfl, rfl⟩ := hcs
    simp only [if_true] at hz
    refine ⟨zs.take n, some a, n, c, rfl, ?_, fun x hx => hwf x (List.mem_of_mem_take hx)⟩
    have hlen : (zs.take n).length = n := by simp; omega
    refine ⟨some a, c, by rw [hlen], by rw [hlen]; exact hl, hm, fun h0 => ?_⟩
    rw [hlen] at h0
    obtain ⟨b, off, rfl, hc2⟩ := ints_at hcell (by omega)
    refine ⟨b, off, rfl, World.block_lt_of_cell? W _ (hc2 0 (by omega)), fun i x hx => ⟨_, rfl, fun j u hu => ?_⟩⟩
    have hin : i < n := by have := (List.getElem?_eq_some_iff.1 hx).1; rw [hlen] at this; exact this
    match j, hu with
    | 0, hu =>
      simp at hu
      subst hu
      rw [Nat.mul_one, Nat.add_zero, hc2 i (by omega)]
      rw [List.getElem?_take, if_pos hin] at hx
      simp [List.getD, hx]
theorem mx_of {W : World} (h : W.ShapedOpen Tryz.prog) : Mx W :=
  cell_of_shapedOpen_int (t := 3) (zero := #[.int .i64 0]) h (of_decide_eq_true (by kernel_rfl)) (by kernel_rfl) rfl (by kernel_rfl) (by kernel_rfl) Tryz.underlying3
end
section
open Go.RowKit Go.ChangeShapes Go.WideShapes Go.ChangeAt Go.Deep
variable {H : Type} {enc : TypeId × Value → H} {P : Program} {W : World}

/-- the cells from an address on -/
def w_cells (W : World) (a : Addr) (k : Nat) (cs : List Value) : Prop := ∀ j u, cs[j]? = some u → W.cell? (a.add (k + j)) = some u
/-- what is read at a type is there, and stands for something -/
def Opn {α : Type} (enc : TypeId × Value → H) (P : Program) (W : World) (t : TypeId) (R : Rep α) : Prop :=
  ∀ (fuel : Nat) (cs : List Value) (x : DataW H × List MemPlace), DataW.trod enc P W 0 (fun _ => true) true fuel t cs = some x → ∃ a, R W (Lt W.heap.size) a cs
theorem Opn.slice {α : Type} {R : Rep α} {size : Nat} {t e : TypeId} (ht : P.underlying t = some (.slice e)) (hc : P.cellsOf e = size) (hz : 0 < size) (hR : RepOk R size) (ho : Opn enc P W e R) : Opn enc P W t (Sl R size) := fun fuel cs x h => by
  subst hc
  rcases open_slice ht h with ⟨rfl, _⟩ | ⟨a, len, cap, m, n, D, Pl, rfl, _, hl, hm, hmm, _, hi⟩
  · exact ⟨[], Sl.nil _ _ _ _⟩
  · simp only [if_true] at hmm
    have hall : ∀ i, i < len → ∃ y cs', w_cells W a (i * P.cellsOf e) cs' ∧ R W (Lt W.heap.size) y cs' := fun i hil => by
      obtain ⟨cs', hcs, ht'⟩ := hi i (by omega)
      obtain ⟨y, hy⟩ := ho _ _ _ ht'
      obtain ⟨_, hcl, hat⟩ := World.cells?_some hcs
      refine ⟨y, cs', fun j u hu => ?_, hy⟩
      have hj : j < P.cellsOf e := by have := (List.getElem?_eq_some_iff.1 hu).1; omega
      rw [← Addr.add_add, hat j hj, hu]
    obtain ⟨f, hf⟩ : ∃ f : (i : Nat) → i < len → α, ∀ i (hil : i < len), ∃ cs', w_cells W a (i * P.cellsOf e) cs' ∧ R W (Lt W.heap.size) (f i hil) cs' :=
      ⟨fun i hil => (hall i hil).choose, fun i hil => (hall i hil).choose_spec⟩
    have hlen : (List.ofFn fun i : Fin len => f i.1 i.2).length = len := by simp
    refine ⟨List.ofFn fun i : Fin len => f i.1 i.2, some a, cap, by rw [hlen], by rw [hlen]; exact hl, hm, fun h0 => ?_⟩
    rw [hlen] at h0
    obtain ⟨cs', hw, hr⟩ := hf 0 h0
    have hcl := hR.len hr
    have h1 : W.cell? a = some (cs'[0]'(by omega)) := by
      have := hw 0 _ (List.getElem?_eq_getElem (by omega))
      simpa [Addr.add] using this
    obtain ⟨b, off, sp⟩ := a
    obtain rfl : sp = none := by
      unfold World.cell? at h1
      split at h1
      · cases sp with
        | none => rfl
        | some s => simp at h1
      · cases h1
    refine ⟨b, off, rfl, World.block_lt_of_cell? W _ h1, fun i y hy => ?_⟩
    obtain ⟨hil, hy⟩ := List.getElem?_eq_some_iff.1 hy
    rw [hlen] at hil
    obtain ⟨cs', hw, hr⟩ := hf i hil
    refine ⟨cs', by rw [← hy]; simpa using hr, fun j u hu => ?_⟩
    have := hw j u hu
    rw [Addr.add_lit] at this
    exact this
end
section
open Go.RowKit Go.ChangeShapes Go.WideShapes Go.ChangeAt Go.Deep
variable {H : Type} {enc : TypeId × Value → H} {W : World}
theorem cells_str : Tryz.prog.cellsOf 9 = 1 := by kernel_rfl
theorem cells_int : Tryz.prog.cellsOf 3 = 1 := by kernel_rfl
theorem cells_att : Tryz.prog.cellsOf 84 = 3 := by kernel_rfl
theorem cells_rdn : Tryz.prog.cellsOf 82 = 1 := by kernel_rfl
theorem cells_rdns : Tryz.prog.cellsOf 22 = 1 := by kernel_rfl
theorem cells_name : Tryz.prog.cellsOf 24 = 1 := by kernel_rfl
set_option maxRecDepth 100000 in
theorem opn_att : Opn enc Tryz.prog W 84 RAttr := fun fuel cs x h => by
  obtain ⟨xs, n, _, _, hcl, hxl, hf⟩ := DataW.trod_struct Tryz.underlying84 h
  rw [cells_att] at hcl
  have hxl3 : xs.length = 3 := hxl
  clear hxl
  match cs, hcl, xs, hxl3 with
  | [c0, c1, c2], _, [x0, x1, x2], _ =>
    have h0 : DataW.trod enc Tryz.prog W 0 (fun _ => true) true n 9 (([c0, c1, c2].drop 0).take (Tryz.prog.cellsOf 9)) = some x0 := hf 0 _ rfl
    have h1 : DataW.trod enc Tryz.prog W 0 (fun _ => true) true n 3 (([c0, c1, c2].drop 1).take (Tryz.prog.cellsOf 3)) = some x1 := hf 1 _ rfl
    have h2 : DataW.trod enc Tryz.prog W 0 (fun _ => true) true n 9 (([c0, c1, c2].drop 2).take (Tryz.prog.cellsOf 9)) = some x2 := hf 2 _ rfl
    rw [cells_str] at h0 h2
    rw [cells_int] at h1
    obtain ⟨s, hs, _⟩ := DataW.trod_string Tryz.underlying9 (cs := [c0]) h0
    obtain ⟨k, hk, _⟩ := DataW.trod_int Tryz.underlying3 (cs := [c1]) h1
    obtain ⟨u, hu, _⟩ := DataW.trod_string Tryz.underlying9 (cs := [c2]) h2
    simp only [List.cons.injEq, and_true] at hs hk hu
    subst hs hk hu
    exact ⟨(s.data.toList, k, u.data.toList), rfl⟩
set_option maxRecDepth 100000 in
theorem opn_rdn : Opn enc Tryz.prog W 82 RRdn := Opn.slice Tryz.underlying82 cells_att (by omega) RAttr.ok opn_att
set_option maxRecDepth 100000 in
theorem opn_rdns : Opn enc Tryz.prog W 22 RName := Opn.slice Tryz.underlying22 cells_rdn (by omega) RRdn.ok opn_rdn
end
section
open Go.RowKit Go.ChangeShapes Go.WideShapes Go.ChangeAt Go.Deep
variable {H : Type} {enc : TypeId × Value → H} {W : World}
theorem cells_gen : Tryz.prog.cellsOf 26 = 3 := by kernel_rfl
set_option maxRecDepth 100000 in
theorem opn_name : Opn enc Tryz.prog W 24 RName := fun fuel cs x h => by
  obtain ⟨xs, n, _, _, hcl, hxl, hf⟩ := DataW.trod_struct Tryz.underlying24 h
  rw [cells_name] at hcl
  have hxl1 : xs.length = 1 := hxl
  clear hxl
  match cs, hcl, xs, hxl1 with
  | [c0], _, [x0], _ =>
    have h0 : DataW.trod enc Tryz.prog W 0 (fun _ => true) true n 22 (([c0].drop 0).take (Tryz.prog.cellsOf 22)) = some x0 := hf 0 _ rfl
    rw [cells_rdns] at h0
    obtain ⟨a, ha⟩ := opn_rdns _ [c0] _ h0
    exact ⟨a, ha⟩
end
section
open Go.RowKit Go.ChangeShapes Go.WideShapes Go.ChangeAt Go.Deep
variable {H : Type} {enc : TypeId × Value → H} {W : World}
set_option maxRecDepth 100000 in
/-- an argument that is a general name -/
theorem open_gen {v : Value} {d : DataW H} {p : List MemPlace} {base : Nat} (hval : Value.okWide Tryz.prog W .any base 26 v) (h : DataW.Trod enc Tryz.prog W 0 (fun _ => true) true 26 v d p) :
    ∃ (g : Gen) (t : ByteArray) (A : Option Addr) (c : Nat), v = .agg #[.int .i64 g.1, .string t, .slice A g.2.2.length c] ∧ t.data.toList = g.2.1 ∧ Sl RRdn 1 W (Lt W.heap.size) g.2.2 [.slice A g.2.2.length c] := by
  obtain ⟨cs, rfl, hsz⟩ := okWide_struct Tryz.underlying26 hval
  rw [cells_gen] at hsz
  obtain ⟨fuel, hf0⟩ := h
  obtain ⟨xs, n, _, _, hcl, hxl, hf⟩ := DataW.trod_struct Tryz.underlying26 hf0
  obtain ⟨l⟩ := cs
  have hxl3 : xs.length = 3 := hxl
  clear hxl
  match l, hsz, xs, hxl3 with
  | [c0, c1, c2], _, [x0, x1, x2], _ =>
    have h0 : DataW.trod enc Tryz.prog W 0 (fun _ => true) true n 3 (([c0, c1, c2].drop 0).take (Tryz.prog.cellsOf 3)) = some x0 := hf 0 _ rfl
    have h1 : DataW.trod enc Tryz.prog W 0 (fun _ => true) true n 9 (([c0, c1, c2].drop 1).take (Tryz.prog.cellsOf 9)) = some x1 := hf 1 _ rfl
    have h2 : DataW.trod enc Tryz.prog W 0 (fun _ => true) true n 24 (([c0, c1, c2].drop 2).take (Tryz.prog.cellsOf 24)) = some x2 := hf 2 _ rfl
    rw [cells_int] at h0
    rw [cells_str] at h1
    rw [cells_name] at h2
    obtain ⟨k, hk, _⟩ := DataW.trod_int Tryz.underlying3 (cs := [c0]) h0
    obtain ⟨s, hs, _⟩ := DataW.trod_string Tryz.underlying9 (cs := [c1]) h1
    obtain ⟨a, ha⟩ := opn_name _ [c2] _ h2
    obtain ⟨A, c, hv⟩ := Sl.shape ha
    simp only [List.cons.injEq, and_true] at hk hs
    subst hk hs hv
    exact ⟨(k, s.data.toList, a), s, A, c, rfl, rfl, ha⟩
end
section
open Go.RowKit
theorem gTb : Tryz.prog.globalNamed "internal/strconv.uint64pow10" = some 3 := by kernel_rfl
theorem gTbType : (Tryz.prog.globals[3]?).map (·.type) = some 215 := by kernel_rfl
theorem cellsU64 : Tryz.prog.cellsOf 157 = 1 := by kernel_rfl
theorem cellsTb : Tryz.prog.cellsOf 215 = 20 := by kernel_rfl
def isTb (x : String × DataW Unit) : Bool := x.1 == "internal/strconv.uint64pow10"
theorem tb_of {W : World} {L : List (String × DataW Unit)} (h : laidMetH Tryz.prog L W) (hn : (L.all fun x => x.2.handleName?.isNone) = true) (hf : L.filter isTb = [("internal/strconv.uint64pow10", Lib.tabData .u64 Lib.pow10Tab)]) : Tb W := by
  rw [Go.MakeChecks.laidMetH_plain _ _ _ hn] at h
  have h2 := laidMet.filter isTb h
  rw [hf] at h2
  exact Lib.tabIs_of_head (rest := []) gTb gTbType Tryz.underlying215 Tryz.underlying157 cellsU64 cellsTb h2
end
end Go.Proofs.YtmgnihmjjijdoaaGreatDoor
