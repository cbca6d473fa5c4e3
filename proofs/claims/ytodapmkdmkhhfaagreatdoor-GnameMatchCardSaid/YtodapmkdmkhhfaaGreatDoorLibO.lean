/- Arguments opened: strings, integers, slices of what can be opened, structs. -/
import Derived.Test.YtodapmkdmkhhfaaGreatDoorLibR
import Derived.Deep.Slices
import Derived.Test.YtodapmkdmkhhfaaGreatDoorNamA
import Derived.Test.YtodapmkdmkhhfaaGreatDoorGn1
namespace Go.Proofs.YtodapmkdmkhhfaaGreatDoor
open Go.RowKit Go.ChangeShapes Go.WideShapes Go.ChangeAt Go.Deep

section
variable {H : Type} {enc : TypeId × Value → H} {P : Program} {W : World}

/-- the cells from an address on -/
def w_cells (W : World) (a : Addr) (k : Nat) (cs : List Value) : Prop := ∀ j u, cs[j]? = some u → W.cell? (a.add (k + j)) = some u
/-- what is read at a type is there, and stands for something -/
def Opn {α : Type} (enc : TypeId × Value → H) (P : Program) (W : World) (t : TypeId) (R : Rep α) : Prop :=
  ∀ (fuel : Nat) (cs : List Value) (x : DataW H × List MemPlace), DataW.trod enc P W 0 (fun _ => true) true fuel t cs = some x → ∃ a, R W (Lt W.heap.size) a cs
theorem Opn.string {t : TypeId} (ht : P.underlying t = some .string) : Opn enc P W t RStr := fun fuel cs x h => by
  obtain ⟨s, rfl, _, _⟩ := DataW.trod_string ht h
  exact ⟨s.data.toList, rfl⟩
theorem Opn.int {t : TypeId} (ht : P.underlying t = some (.int .i64)) : Opn enc P W t RInt := fun fuel cs x h => by
  obtain ⟨n, rfl, _, _⟩ := DataW.trod_int ht h
  exact ⟨n, rfl⟩
theorem Opn.slice {α : Type} {R : Rep α} {size : Nat} {t e : TypeId} (ht : P.underlying t = some (.slice e)) (hc : P.cellsOf e = size) (hz : 0 < size) (hR : RepOk R size) (ho : Opn enc P W e R) : Opn enc P W t (Sl R size) := fun fuel cs x h => by
  subst hc
  rcases open_slice ht h with ⟨rfl, _⟩ | ⟨a, len, cap, m, n, D, Pl, rfl, _, hl, hm, hmm, _, hi⟩
  · exact ⟨[], Sl.nil _ _ _ _⟩
  · simp only [if_true] at hmm
    have hall : ∀ i, i < len → ∃ y cs', w_cells W a (i * P.cellsOf e) cs' ∧ R W (Lt W.heap.size) y cs' := fun i hil => by
      obtain ⟨cs', hcs, ht'⟩ := hi i (by omega)
      obtain ⟨y, hy⟩ := ho _ _ _ ht'
      obtain ⟨_, hcl, hat⟩ := World.cells?_some hcs
      refine ⟨y, cs', fun j u hu => ?_, hy⟩
      have hj : j < P.cellsOf e := by have := (List.getElem?_eq_some_iff.1 hu).1; omega
      rw [← Addr.add_add, hat j hj, hu]
    obtain ⟨f, hf⟩ : ∃ f : (i : Nat) → i < len → α, ∀ i (hil : i < len), ∃ cs', w_cells W a (i * P.cellsOf e) cs' ∧ R W (Lt W.heap.size) (f i hil) cs' :=
      ⟨fun i hil => (hall i hil).choose, fun i hil => (hall i hil).choose_spec⟩
    have hlen : (List.ofFn fun i : Fin len => f i.1 i.2).length = len := by simp
    refine ⟨List.ofFn fun i : Fin len => f i.1 i.2, some a, cap, by rw [hlen], by rw [hlen]; exact hl, hm, fun h0 => ?_⟩
    rw [hlen] at h0
    obtain ⟨cs', hw, hr⟩ := hf 0 h0
    have hcl := hR.len hr
    have h1 : W.cell? a = some (cs'[0]'(by omega)) := by
      have := hw 0 _ (List.getElem?_eq_getElem (by omega))
      simpa [Addr.add] using this
    obtain ⟨b, off, sp⟩ := a
    obtain rfl : sp = none := by
      unfold World.cell? at h1
      split at h1
      · cases sp with
        | none => rfl
        | some s => simp at h1
      · cases h1
    refine ⟨b, off, rfl, World.block_lt_of_cell? W _ h1, fun i y hy => ?_⟩
    obtain ⟨hil, hy⟩ := List.getElem?_eq_some_iff.1 hy
    rw [hlen] at hil
    obtain ⟨cs', hw, hr⟩ := hf i hil
    refine ⟨cs', by rw [← hy]; simpa using hr, fun j u hu => ?_⟩
    have := hw j u hu
    rw [Addr.add_lit] at this
    exact this
end
end Go.Proofs.YtodapmkdmkhhfaaGreatDoor

/- Arguments opened: names. -/
namespace Go.Proofs.YtodapmkdmkhhfaaGreatDoor
open Go.RowKit Go.ChangeShapes Go.WideShapes Go.ChangeAt Go.Deep

section
variable {H : Type} {enc : TypeId × Value → H} {W : World}
theorem cells_str : Tryz.prog.cellsOf 9 = 1 := by kernel_rfl
theorem cells_int : Tryz.prog.cellsOf 3 = 1 := by kernel_rfl
theorem cells_att : Tryz.prog.cellsOf 74 = 3 := by kernel_rfl
theorem cells_rdn : Tryz.prog.cellsOf 72 = 1 := by kernel_rfl
theorem cells_rdns : Tryz.prog.cellsOf 28 = 1 := by kernel_rfl
theorem cells_name : Tryz.prog.cellsOf 30 = 1 := by kernel_rfl
set_option maxRecDepth 100000 in
theorem opn_att : Opn enc Tryz.prog W 74 RAttr := fun fuel cs x h => by
  obtain ⟨xs, n, _, _, hcl, hxl, hf⟩ := DataW.trod_struct Tryz.underlying74 h
  rw [cells_att] at hcl
  have hxl3 : xs.length = 3 := hxl
  clear hxl
  match cs, hcl, xs, hxl3 with
  | [c0, c1, c2], _, [x0, x1, x2], _ =>
    have h0 : DataW.trod enc Tryz.prog W 0 (fun _ => true) true n 9 (([c0, c1, c2].drop 0).take (Tryz.prog.cellsOf 9)) = some x0 := hf 0 _ rfl
    have h1 : DataW.trod enc Tryz.prog W 0 (fun _ => true) true n 3 (([c0, c1, c2].drop 1).take (Tryz.prog.cellsOf 3)) = some x1 := hf 1 _ rfl
    have h2 : DataW.trod enc Tryz.prog W 0 (fun _ => true) true n 9 (([c0, c1, c2].drop 2).take (Tryz.prog.cellsOf 9)) = some x2 := hf 2 _ rfl
    rw [cells_str] at h0 h2
    rw [cells_int] at h1
    obtain ⟨s, hs, _⟩ := DataW.trod_string Tryz.underlying9 (cs := [c0]) h0
    obtain ⟨k, hk, _⟩ := DataW.trod_int Tryz.underlying3 (cs := [c1]) h1
    obtain ⟨u, hu, _⟩ := DataW.trod_string Tryz.underlying9 (cs := [c2]) h2
    simp only [List.cons.injEq, and_true] at hs hk hu
    subst hs hk hu
    exact ⟨(s.data.toList, k, u.data.toList), rfl⟩
set_option maxRecDepth 100000 in
theorem opn_rdn : Opn enc Tryz.prog W 72 RRdn := Opn.slice Tryz.underlying72 cells_att (by omega) RAttr.ok opn_att
set_option maxRecDepth 100000 in
theorem opn_rdns : Opn enc Tryz.prog W 28 RName := Opn.slice Tryz.underlying28 cells_rdn (by omega) RRdn.ok opn_rdn
set_option maxRecDepth 100000 in
/-- a name argument -/
theorem open_name {v : Value} {d : DataW H} {p : List MemPlace} {base : Nat} (hval : Value.okWide Tryz.prog W .any base 30 v) (h : DataW.Trod enc Tryz.prog W 0 (fun _ => true) true 30 v d p) :
    ∃ (n : Name) (A : Option Addr) (c : Nat), v = .agg #[.slice A n.length c] ∧ Sl RRdn 1 W (Lt W.heap.size) n [.slice A n.length c] := by
  obtain ⟨cs, rfl, hsz⟩ := okWide_struct Tryz.underlying30 hval
  rw [cells_name] at hsz
  obtain ⟨fuel, hf0⟩ := h
  obtain ⟨xs, n, _, _, hcl, hxl, hf⟩ := DataW.trod_struct Tryz.underlying30 hf0
  obtain ⟨l⟩ := cs
  have hxl1 : xs.length = 1 := hxl
  clear hxl
  match l, hsz, xs, hxl1 with
  | [c0], _, [x0], _ =>
    have h0 : DataW.trod enc Tryz.prog W 0 (fun _ => true) true n 28 (([c0].drop 0).take (Tryz.prog.cellsOf 28)) = some x0 := hf 0 _ rfl
    rw [cells_rdns] at h0
    obtain ⟨a, ha⟩ := opn_rdns _ [c0] _ h0
    obtain ⟨A, c, hv⟩ := ha.shape
    subst hv
    exact ⟨a, A, c, rfl, ha⟩
end
end Go.Proofs.YtodapmkdmkhhfaaGreatDoor

/- Arguments opened: general names. -/
namespace Go.Proofs.YtodapmkdmkhhfaaGreatDoor
open Go.RowKit Go.ChangeShapes Go.WideShapes Go.ChangeAt Go.Deep

section
variable {H : Type} {enc : TypeId × Value → H} {W : World}
theorem cells_gen : Tryz.prog.cellsOf 32 = 3 := by kernel_rfl
theorem cells_gens : Tryz.prog.cellsOf 25 = 1 := by kernel_rfl
set_option maxRecDepth 100000 in
theorem opn_name : Opn enc Tryz.prog W 30 RName := fun fuel cs x h => by
  obtain ⟨xs, n, _, _, hcl, hxl, hf⟩ := DataW.trod_struct Tryz.underlying30 h
  rw [cells_name] at hcl
  have hxl1 : xs.length = 1 := hxl
  clear hxl
  match cs, hcl, xs, hxl1 with
  | [c0], _, [x0], _ =>
    have h0 : DataW.trod enc Tryz.prog W 0 (fun _ => true) true n 28 (([c0].drop 0).take (Tryz.prog.cellsOf 28)) = some x0 := hf 0 _ rfl
    rw [cells_rdns] at h0
    obtain ⟨a, ha⟩ := opn_rdns _ [c0] _ h0
    exact ⟨a, ha⟩
set_option maxRecDepth 100000 in
theorem opn_gen : Opn enc Tryz.prog W 32 RGen := fun fuel cs x h => by
  obtain ⟨xs, n, _, _, hcl, hxl, hf⟩ := DataW.trod_struct Tryz.underlying32 h
  rw [cells_gen] at hcl
  have hxl3 : xs.length = 3 := hxl
  clear hxl
  match cs, hcl, xs, hxl3 with
  | [c0, c1, c2], _, [x0, x1, x2], _ =>
    have h0 : DataW.trod enc Tryz.prog W 0 (fun _ => true) true n 3 (([c0, c1, c2].drop 0).take (Tryz.prog.cellsOf 3)) = some x0 := hf 0 _ rfl
    have h1 : DataW.trod enc Tryz.prog W 0 (fun _ => true) true n 9 (([c0, c1, c2].drop 1).take (Tryz.prog.cellsOf 9)) = some x1 := hf 1 _ rfl
    have h2 : DataW.trod enc Tryz.prog W 0 (fun _ => true) true n 30 (([c0, c1, c2].drop 2).take (Tryz.prog.cellsOf 30)) = some x2 := hf 2 _ rfl
    rw [cells_int] at h0
    rw [cells_str] at h1
    rw [cells_name] at h2
    obtain ⟨k, hk, _⟩ := DataW.trod_int Tryz.underlying3 (cs := [c0]) h0
    obtain ⟨s, hs, _⟩ := DataW.trod_string Tryz.underlying9 (cs := [c1]) h1
    obtain ⟨a, ha⟩ := opn_name _ [c2] _ h2
    simp only [List.cons.injEq, and_true] at hk hs
    subst hk hs
    exact ⟨(k, s.data.toList, a), c2, rfl, ha⟩
set_option maxRecDepth 100000 in
theorem opn_gens : Opn enc Tryz.prog W 25 (Sl RGen 3) := Opn.slice Tryz.underlying25 cells_gen (by omega) RGen.ok opn_gen
set_option maxRecDepth 100000 in
/-- an argument that is a slice of general names -/
theorem open_gens {v : Value} {d : DataW H} {p : List MemPlace} {base : Nat} (hval : Value.okWide Tryz.prog W .any base 25 v) (h : DataW.Trod enc Tryz.prog W 0 (fun _ => true) true 25 v d p) :
    ∃ (l : List Gen) (A : Option Addr) (c : Nat), v = .slice A l.length c ∧ Sl RGen 3 W (Lt W.heap.size) l [.slice A l.length c] := by
  obtain ⟨a, len, cap, rfl⟩ := okWide_slice Tryz.underlying25 hval
  obtain ⟨fuel, hf0⟩ := h
  obtain ⟨l, hl⟩ := opn_gens fuel [.slice a len cap] _ hf0
  obtain ⟨rfl, -, -⟩ := hl.len_
  exact ⟨l, a, cap, rfl, hl⟩
end
end Go.Proofs.YtodapmkdmkhhfaaGreatDoor

/- Arguments opened: a general name, name constraints, a state, a reduced state. -/
namespace Go.Proofs.YtodapmkdmkhhfaaGreatDoor
open Go.RowKit Go.ChangeShapes Go.WideShapes Go.ChangeAt Go.Deep

section
variable {H : Type} {enc : TypeId × Value → H} {W : World}
theorem cells_sub : Tryz.prog.cellsOf 27 = 2 := by kernel_rfl
theorem cells_subs : Tryz.prog.cellsOf 22 = 1 := by kernel_rfl
theorem cells_state : Tryz.prog.cellsOf 24 = 1 := by kernel_rfl
theorem cells_intl : Tryz.prog.cellsOf 33 = 1 := by kernel_rfl
theorem cells_red : Tryz.prog.cellsOf 53 = 3 := by kernel_rfl
set_option maxRecDepth 100000 in
theorem opn_intl : Opn enc Tryz.prog W 33 (Sl RInt 1) := Opn.slice Tryz.underlying33 cells_int (by omega) RInt.ok (Opn.int Tryz.underlying3)
set_option maxRecDepth 100000 in
/-- an argument that is a general name -/
theorem open_gen {v : Value} {d : DataW H} {p : List MemPlace} {base : Nat} (hval : Value.okWide Tryz.prog W .any base 32 v) (h : DataW.Trod enc Tryz.prog W 0 (fun _ => true) true 32 v d p) :
    ∃ (g : Gen) (t : ByteArray) (A : Option Addr) (c : Nat), v = .agg #[.int .i64 g.1, .string t, .slice A g.2.2.length c] ∧ t.data.toList = g.2.1 ∧ Sl RRdn 1 W (Lt W.heap.size) g.2.2 [.slice A g.2.2.length c] := by
  obtain ⟨cs, rfl, hsz⟩ := okWide_struct Tryz.underlying32 hval
  rw [cells_gen] at hsz
  obtain ⟨fuel, hf0⟩ := h
  obtain ⟨xs, n, _, _, hcl, hxl, hf⟩ := DataW.trod_struct Tryz.underlying32 hf0
  obtain ⟨l⟩ := cs
  have hxl3 : xs.length = 3 := hxl
  clear hxl
  match l, hsz, xs, hxl3 with
  | [c0, c1, c2], _, [x0, x1, x2], _ =>
    have h0 : DataW.trod enc Tryz.prog W 0 (fun _ => true) true n 3 (([c0, c1, c2].drop 0).take (Tryz.prog.cellsOf 3)) = some x0 := hf 0 _ rfl
    have h1 : DataW.trod enc Tryz.prog W 0 (fun _ => true) true n 9 (([c0, c1, c2].drop 1).take (Tryz.prog.cellsOf 9)) = some x1 := hf 1 _ rfl
    have h2 : DataW.trod enc Tryz.prog W 0 (fun _ => true) true n 30 (([c0, c1, c2].drop 2).take (Tryz.prog.cellsOf 30)) = some x2 := hf 2 _ rfl
    rw [cells_int] at h0
    rw [cells_str] at h1
    rw [cells_name] at h2
    obtain ⟨k, hk, _⟩ := DataW.trod_int Tryz.underlying3 (cs := [c0]) h0
    obtain ⟨s, hs, _⟩ := DataW.trod_string Tryz.underlying9 (cs := [c1]) h1
    obtain ⟨a, ha⟩ := opn_name _ [c2] _ h2
    obtain ⟨A, c, hv⟩ := Sl.shape ha
    simp only [List.cons.injEq, and_true] at hk hs
    subst hk hs hv
    exact ⟨(k, s.data.toList, a), s, A, c, rfl, rfl, ha⟩
set_option maxRecDepth 100000 in
/-- an argument that is a reduced state -/
theorem open_red {v : Value} {d : DataW H} {p : List MemPlace} {base : Nat} (hval : Value.okWide Tryz.prog W .any base 53 v) (h : DataW.Trod enc Tryz.prog W 0 (fun _ => true) true 53 v d p) :
    ∃ (lim : List Int) (per ex : List Gen) (A B C : Option Addr) (a b c : Nat), v = .agg #[.slice A lim.length a, .slice B per.length b, .slice C ex.length c] ∧ Sl RInt 1 W (Lt W.heap.size) lim [.slice A lim.length a] ∧ Sl RGen 3 W (Lt W.heap.size) per [.slice B per.length b] ∧ Sl RGen 3 W (Lt W.heap.size) ex [.slice C ex.length c] := by
  obtain ⟨cs, rfl, hsz⟩ := okWide_struct Tryz.underlying53 hval
  rw [cells_red] at hsz
  obtain ⟨fuel, hf0⟩ := h
  obtain ⟨xs, n, _, _, hcl, hxl, hf⟩ := DataW.trod_struct Tryz.underlying53 hf0
  obtain ⟨l⟩ := cs
  have hxl3 : xs.length = 3 := hxl
  clear hxl
  match l, hsz, xs, hxl3 with
  | [c0, c1, c2], _, [x0, x1, x2], _ =>
    have h0 : DataW.trod enc Tryz.prog W 0 (fun _ => true) true n 33 (([c0, c1, c2].drop 0).take (Tryz.prog.cellsOf 33)) = some x0 := hf 0 _ rfl
    have h1 : DataW.trod enc Tryz.prog W 0 (fun _ => true) true n 25 (([c0, c1, c2].drop 1).take (Tryz.prog.cellsOf 25)) = some x1 := hf 1 _ rfl
    have h2 : DataW.trod enc Tryz.prog W 0 (fun _ => true) true n 25 (([c0, c1, c2].drop 2).take (Tryz.prog.cellsOf 25)) = some x2 := hf 2 _ rfl
    rw [cells_intl] at h0
    rw [cells_gens] at h1 h2
    obtain ⟨a0, q0⟩ := opn_intl _ [c0] _ h0
    obtain ⟨a1, q1⟩ := opn_gens _ [c1] _ h1
    obtain ⟨a2, q2⟩ := opn_gens _ [c2] _ h2
    obtain ⟨A, c, hv⟩ := q0.shape
    obtain ⟨A', c', hv'⟩ := q1.shape
    obtain ⟨A'', c'', hv''⟩ := q2.shape
    subst hv hv' hv''
    exact ⟨a0, a1, a2, A, A', A'', c, c', c'', rfl, q0, q1, q2⟩
set_option maxRecDepth 100000 in
theorem opn_sub : Opn enc Tryz.prog W 27 RSub := fun fuel cs x h => by
  obtain ⟨xs, n, _, _, hcl, hxl, hf⟩ := DataW.trod_struct Tryz.underlying27 h
  rw [cells_sub] at hcl
  have hxl2 : xs.length = 2 := hxl
  clear hxl
  match cs, hcl, xs, hxl2 with
  | [c0, c1], _, [x0, x1], _ =>
    have h0 : DataW.trod enc Tryz.prog W 0 (fun _ => true) true n 25 (([c0, c1].drop 0).take (Tryz.prog.cellsOf 25)) = some x0 := hf 0 _ rfl
    have h1 : DataW.trod enc Tryz.prog W 0 (fun _ => true) true n 25 (([c0, c1].drop 1).take (Tryz.prog.cellsOf 25)) = some x1 := hf 1 _ rfl
    rw [cells_gens] at h0 h1
    obtain ⟨a0, q0⟩ := opn_gens _ [c0] _ h0
    obtain ⟨a1, q1⟩ := opn_gens _ [c1] _ h1
    exact ⟨(a0, a1), c0, c1, rfl, q0, q1⟩
set_option maxRecDepth 100000 in
theorem opn_subs : Opn enc Tryz.prog W 22 (Sl RSub 2) := Opn.slice Tryz.underlying22 cells_sub (by omega) RSub.ok opn_sub
set_option maxRecDepth 100000 in
/-- an argument that is name constraints -/
theorem open_sub {v : Value} {d : DataW H} {p : List MemPlace} {base : Nat} (hval : Value.okWide Tryz.prog W .any base 27 v) (h : DataW.Trod enc Tryz.prog W 0 (fun _ => true) true 27 v d p) :
    ∃ (per ex : List Gen) (B C : Option Addr) (b c : Nat), v = .agg #[.slice B per.length b, .slice C ex.length c] ∧ Sl RGen 3 W (Lt W.heap.size) per [.slice B per.length b] ∧ Sl RGen 3 W (Lt W.heap.size) ex [.slice C ex.length c] := by
  obtain ⟨cs, rfl, hsz⟩ := okWide_struct Tryz.underlying27 hval
  rw [cells_sub] at hsz
  obtain ⟨fuel, hf0⟩ := h
  obtain ⟨l⟩ := cs
  have hsz2 : l.length = 2 := hsz
  match l, hsz2 with
  | [c0, c1], _ =>
    obtain ⟨s, v1, v2, he, q0, q1⟩ := opn_sub fuel [c0, c1] _ hf0
    simp only [List.cons.injEq, and_true] at he
    obtain ⟨rfl, rfl⟩ := he
    obtain ⟨A, c, hv⟩ := q0.shape
    obtain ⟨A', c', hv'⟩ := q1.shape
    subst hv hv'
    exact ⟨s.1, s.2, A, A', c, c', rfl, q0, q1⟩
set_option maxRecDepth 100000 in
/-- an argument that is a state -/
theorem open_state {v : Value} {d : DataW H} {p : List MemPlace} {base : Nat} (hval : Value.okWide Tryz.prog W .any base 24 v) (h : DataW.Trod enc Tryz.prog W 0 (fun _ => true) true 24 v d p) :
    ∃ (n : List Sub) (A : Option Addr) (c : Nat), v = .agg #[.slice A n.length c] ∧ Sl RSub 2 W (Lt W.heap.size) n [.slice A n.length c] := by
  obtain ⟨cs, rfl, hsz⟩ := okWide_struct Tryz.underlying24 hval
  rw [cells_state] at hsz
  obtain ⟨fuel, hf0⟩ := h
  obtain ⟨xs, n, _, _, hcl, hxl, hf⟩ := DataW.trod_struct Tryz.underlying24 hf0
  obtain ⟨l⟩ := cs
  have hxl1 : xs.length = 1 := hxl
  clear hxl
  match l, hsz, xs, hxl1 with
  | [c0], _, [x0], _ =>
    have h0 : DataW.trod enc Tryz.prog W 0 (fun _ => true) true n 22 (([c0].drop 0).take (Tryz.prog.cellsOf 22)) = some x0 := hf 0 _ rfl
    rw [cells_subs] at h0
    obtain ⟨a, ha⟩ := opn_subs _ [c0] _ h0
    obtain ⟨A, c, hv⟩ := ha.shape
    subst hv
    exact ⟨a, A, c, rfl, ha⟩
end
end Go.Proofs.YtodapmkdmkhhfaaGreatDoor
