/- The functions of package oid: Encode. -/
import Derived.Test.YtahamclodagihaaGreatDoorTGSplit
import Derived.Test.YtahamclodagihaaGreatDoorTGTxtJ
import Derived.Test.YtahamclodagihaaGreatDoorTLib
import Derived.Test.YtahamclodagihaaGreatDoorRows
import Derived.ProofKit
import Derived.OpenShut
import Derived.Shelf.Vars
namespace Go.Proofs.YtahamclodagihaaGreatDoor
open Go.RowKit
def encR (o : Option (List UInt8)) : Value := .tuple #[.string ⟨(o.getD []).toArray⟩, .int .i64 (if o.isSome then 0 else 11)]
def encL (l : List Nat) : List UInt8 := putL (40 * l.getD 0 0 + l.getD 1 0) ++ (l.drop 2).flatMap putL
def encP (s : List UInt8) : Option (List UInt8) := (arcsP s).map encL
theorem putL_len (n : Nat) (h : n ≤ 4294967295) : (putL n).length ≤ 6 := by
 have := hiL_len (n / 128) (by omega)
 simp [putL]; omega
theorem rootB_le {a b : Nat} (h : rootB a b = true) : a ≤ 2 := by
 unfold rootB at h
 simp at h
 omega
theorem ret_encN {o : Option (List UInt8)} (h : o = none) : Ending.returned (.tuple #[.string ⟨#[]⟩, .int .i64 11]) = Ending.returned (encR o) := by subst h; rfl
theorem ret_encS {o : Option (List UInt8)} {l : List UInt8} (h : o = some l) : Ending.returned (.tuple #[.string ⟨l.toArray⟩, .int .i64 0]) = Ending.returned (encR o) := by subst h; rfl
set_option maxHeartbeats 4000000 in
theorem Encode_any (s : ByteArray) (hs : s.size ≤ 1000000) (w : World) (hmx : Mx w) :
    Calls Tryz.prog 116 #[.string s] w fun e w' => e = .returned (encR (encP s.data.toList)) ∧ Below w.heap.size w w' := by
  have HMX := hide hmx
  clear hmx
  obtain ⟨r, hr⟩ : ∃ r, arcsP s.data.toList = r := ⟨_, rfl⟩
  rw [encP, hr]
  have HR := hide hr
  clear hr
  go_enter Tryz.func116, Tryz.ntmps116
  go_wp2_with fail
  refine (arcs_any s hs _ HMX.out).mono ?_
  rw [HR.out]
  rintro e w1 ⟨hb, h⟩
  cases r with
  | none =>
    subst h
    have hq := fun W : World => Lib.run_eql_slice_nil (P := Tryz.prog) W 25 3 none 0 0 0 0 Tryz.underlying25
    go_wp2_with fail
    go_ret2
    exact ⟨rfl, hb⟩
  | some l =>
    obtain ⟨g, c, rfl, hg, hsl⟩ := h
    obtain ⟨h2, h12, hle, hroot⟩ := arcsP_some HR.out
    have hq := fun W : World => Lib.run_eql_slice_nil (P := Tryz.prog) W 25 3 (some ⟨g, 0, none⟩) l.length c 0 0 Tryz.underlying25
    obtain ⟨-, hlc, -⟩ := hsl.len_
    have hcell : ∀ i (h : i < l.length), w1.cell? ⟨g, i, none⟩ = some (.int .i64 (l[i] : Int)) := fun i hi => by
      obtain ⟨b, off, hA, hb', hc⟩ := hsl.natAt hi
      cases hA
      simpa using hc
    obtain ⟨b0, o0, hA, hgl, -⟩ := hsl.natAt (i := 0) (by omega)
    cases hA
    have hgl' : g < w1.heap.size := hgl
    have h0 := hcell 0 (by omega)
    have h1 := hcell 1 (by omega)
    have HCELL := hide hcell
    obtain ⟨a, ha⟩ : ∃ a, l[0]'(by omega) = a := ⟨_, rfl⟩
    obtain ⟨b, hbb⟩ : ∃ b, l[1]'(by omega) = b := ⟨_, rfl⟩
    rw [ha] at h0
    rw [hbb] at h1
    have e0 : l.getD 0 0 = a := by rw [← ha]; simp [List.getD, List.getElem?_eq_getElem (show 0 < l.length by omega)]
    have e1 : l.getD 1 0 = b := by rw [← hbb]; simp [List.getD, List.getElem?_eq_getElem (show 1 < l.length by omega)]
    rw [e0, e1] at hroot
    have ha2 := rootB_le hroot
    have hb2 : b ≤ 2147483647 := by rw [← hbb]; exact hle _ (List.getElem_mem _)
    have HE := hide (show encL l = putL (40 * a + b) ++ (l.drop 2).flatMap putL by rw [encL, e0, e1])
    have HLE := hide hle
    have HB := hide hb
    clear e0 e1 hroot ha hbb hle hsl hcell hb
    have hi0 : (0 : Int) < (l.length : Int) := by omega
    have hi1 : (1 : Int) < (l.length : Int) := by omega
    have hw1 : IntKind.i64.wrap (40 * (a : Int)) = 40 * (a : Int) := IntWalk.i64_in _ (by omega)
    have hw2 : IntKind.i64.wrap (40 * (a : Int) + (b : Int)) = 40 * (a : Int) + (b : Int) := IntWalk.i64_in _ (by omega)
    have hix0 : (0 : Nat) < l.length := by omega
    have hix1 : (1 : Nat) < l.length := by omega
    go_wp2_with fail
    go_region_held3 (fun W => W.cell? ⟨g, 0, none⟩ = some (.int .i64 (a : Int)) ∧ W.cell? ⟨g, 1, none⟩ = some (.int .i64 (b : Int)))
      (first | exact ⟨h0, h1⟩ | exact ⟨(hb9.cell hgl').trans h0, (hb9.cell hgl').trans h1⟩)
      ((go_at_call 163; refine (put_int (40 * a + b) _ (by omega) (by omega) _ [] w1.heap.size _ (by simp) (Own.nil _ _ _ _ _ _) (by simp)).mono ?_; rintro e w9 ⟨v9, rfl, hown9, hb9⟩))
    all_goals
      clear hw1 hw2 hi0 hi1 hix0 hix1 h0 h1
      rw [List.nil_append] at hown9
      have hpl := putL_len (40 * a + b) (by omega)
      have hs9 := hb9.size
      obtain ⟨m, hm⟩ : ∃ m, l.length - 2 = m := ⟨_, rfl⟩
      have hlm : l.length = m + 2 := by omega
      have hm10 : m ≤ 10 := by omega
      go_wp2_with fail
    all_goals
      have hwb : w1.heap.size ≤ w9.heap.size := hs9
      obtain ⟨base, hbase⟩ : ∃ base, base = w1.heap.size := ⟨_, rfl⟩
      rw [← hbase] at hown9 hgl' hwb
      have HBASE := hide hbase
      have HB9 := hide hb9
      clear hm hbase hs9 hb9
      go_loopw [5, 24] (fun v i wr => ∃ (k : Nat) (out : List UInt8), k ≤ m ∧ i = .int .i64 k ∧ Own RByte 1 5 wr base No v out ∧ Below base w9 wr ∧ base ≤ wr.heap.size ∧ out.length ≤ 6 * k + 6 ∧ Hid (encL l = out ++ (l.drop (2 + k)).flatMap putL)) (fun _ i _ => m - (intOf i).toNat)
      case atStart => exact ⟨0, _, by omega, rfl, hown9, Below.refl _ _, hwb, by omega, HE⟩
      case round =>
        obtain ⟨k, out, hk, rfl, hown, hb, hgs, hol, HO⟩ := hrel
        by_cases hlt : k < m
        · first
          | (exfalso; omega)
          | (have hcell : wr.cell? ⟨g, 2 + k, none⟩ = some (.int .i64 (l[2 + k]'(by omega) : Int)) := (hb.cell hgl').trans (((HB9.out).cell (HBASE.out ▸ hgl')).trans (HCELL.out (2 + k) (by omega)))
             have hle := HLE.out (l[2 + k]'(by omega)) (List.getElem_mem _)
             have hd := List.drop_eq_getElem_cons (show 2 + k < l.length by omega)
             obtain ⟨x, hx⟩ : ∃ x, l[2 + k]'(by omega) = x := ⟨_, rfl⟩
             rw [hx] at hcell hle hd
             have HP := hide (show encL l = (out ++ putL x) ++ (l.drop (2 + (k + 1))).flatMap putL by
               rw [HO.out, hd, List.flatMap_cons, List.append_assoc]; rfl)
             have hplx := putL_len x (by omega)
             clear hx hd
             go_wp2_with fail
             refine (put_any x (by omega) _ out base _ hgs hown (by omega)).mono ?_
             rintro e w3 ⟨v3, rfl, hown3, hb3⟩
             have hs3 := hb3.size
             go_wp2_with fail
             go_roundw
             case rel => exact ⟨k + 1, out ++ putL x, by omega, by go_num, hown3, hb.trans hb3, by omega, by simp; omega, HP⟩
             case measure => simp [intOf]; omega)
        · have hkm : k = m := by omega
          have HP := hide (show encL l = out by rw [HO.out, List.drop_of_length_le (by omega)]; simp)
          have hconv := run_bts_str (P := Tryz.prog) wr 63 9 5 Tryz.underlying63 Tryz.underlying5 Tryz.underlying9 _ _ _ (hown.sl RByte.ok)
          go_wp2_with fail
          go_ret2
          exact ⟨ret_encS (by rw [← HP.out]; rfl), HB.out.trans ((((Below.refl w1.heap.size w1).drew).trans (HB9.out.trans (HBASE.out ▸ hb))).mono (by have := HB.out.size; omega))⟩
end Go.Proofs.YtahamclodagihaaGreatDoor
namespace Go.Proofs.YtahamclodagihaaGreatDoor
open Go.RowKit
def NatsAt (w : World) (g : Nat) (l : List Nat) : Prop := ∀ i (h : i < l.length), w.cell? ⟨g, i, none⟩ = some (.int .i64 (l[i] : Int))
theorem Sl.nats {w : World} {S : Nat → Prop} {g : Nat} {n c : Nat} {l : List Nat} (h : Sl RNat 1 w S l [.slice (some ⟨g, 0, none⟩) n c]) : NatsAt w g l := fun i hi => by
 obtain ⟨b, off, hA, hb', hc⟩ := h.natAt hi
 cases hA
 simpa using hc
theorem NatsAt.below {w w' : World} {g : Nat} {l : List Nat} (h : NatsAt w g l) {B : Nat} (hg : g < B) (hb : Below B w w') : NatsAt w' g l := fun i hi => (hb.cell hg).trans (h i hi)
end Go.Proofs.YtahamclodagihaaGreatDoor
namespace Go.Proofs.YtahamclodagihaaGreatDoor
open Go.RowKit
end Go.Proofs.YtahamclodagihaaGreatDoor
namespace Go.Proofs.YtahamclodagihaaGreatDoor
open Go.RowKit
end Go.Proofs.YtahamclodagihaaGreatDoor
namespace Go.Proofs.YtahamclodagihaaGreatDoor
open Go.RowKit
end Go.Proofs.YtahamclodagihaaGreatDoor
namespace Go.Proofs.YtahamclodagihaaGreatDoor
open Go.RowKit
abbrev Attr := List UInt8 × Int × List UInt8
abbrev Name := List (List Attr)
def attC (a : Attr) : List Value := [.string ⟨a.1.toArray⟩, .int .i64 a.2.1, .string ⟨a.2.2.toArray⟩]
abbrev RAttr : Rep Attr := Pu attC
theorem RAttr.ok : RepOk RAttr 3 := Pu.ok (fun _ => rfl) (fun x u hu => by
 simp only [attC, List.mem_cons, List.not_mem_nil, or_false] at hu
 rcases hu with rfl | rfl | rfl <;> rfl)
abbrev RRdn : Rep (List Attr) := Sl RAttr 3
theorem RRdn.ok : RepOk RRdn 1 := Sl.ok RAttr.ok
def SmallA (a : Attr) : Prop := a.1.length ≤ 131072 ∧ a.2.2.length ≤ 131072
def SmallR (r : List Attr) : Prop := ∀ a ∈ r, SmallA a
def SmallN (n : Name) : Prop := ∀ r ∈ n, SmallR r
theorem Sl.attAt {w : World} {S : Nat → Prop} {A : Option Addr} {n c : Nat} {l : List Attr} (h : Sl RAttr 3 w S l [.slice A n c]) {i : Nat} (hi : i < l.length) :
  ∃ b off, A = some ⟨b, off, none⟩ ∧ S b ∧ w.cell? ⟨b, off + i * 3, none⟩ = some (.string ⟨l[i].1.toArray⟩) ∧ w.cell? ⟨b, off + (i * 3 + 1), none⟩ = some (.int .i64 l[i].2.1) ∧ w.cell? ⟨b, off + (i * 3 + 2), none⟩ = some (.string ⟨l[i].2.2.toArray⟩) := by
 obtain ⟨b, off, xs, hA, hb, hr, hh⟩ := h.at_ hi
 have hr' : xs = attC l[i] := hr
 subst hr'
 exact ⟨b, off, hA, hb, hh 0 _ rfl, hh 1 _ rfl, hh 2 _ rfl⟩
theorem Sl.rdnAt {w : World} {S : Nat → Prop} {A : Option Addr} {n c : Nat} {l : Name} (h : Sl RRdn 1 w S l [.slice A n c]) {i : Nat} (hi : i < l.length) :
  ∃ b off A' c', A = some ⟨b, off, none⟩ ∧ S b ∧ w.cell? ⟨b, off + i, none⟩ = some (.slice A' l[i].length c') ∧ Sl RAttr 3 w S l[i] [.slice A' l[i].length c'] := by
 obtain ⟨b, off, xs, hA, hb, hr, hh⟩ := h.at_ hi
 have hr2 := hr
 obtain ⟨A', c', e, _⟩ := hr2
 subst e
 exact ⟨b, off, A', c', hA, hb, by simpa using hh 0 _ rfl, hr⟩
def chkA : List Attr → List Attr → Int
 | _, [] => 0
 | pre, a :: r => if validB a.1 = false then 11 else if a.2.2 = [] ∨ validT a.2.1 a.2.2 = false then 13 else if 64 < a.2.2.length then 2 else if pre.any (fun b => b.1 == a.1) then 10 else chkA (pre ++ [a]) r
def chkR (r : List Attr) : Int := if r.length = 0 then 14 else if 4 < r.length then 2 else chkA [] r
def chkRs : Name → Int
 | [] => 0
 | r :: rs => if chkR r = 0 then chkRs rs else chkR r
def chkN (n : Name) : Int := if 8 < n.length then 2 else chkRs n
def foldF (l : List UInt8) : List UInt8 := foldG [] false l
def sameB (a b : Attr) : Bool := a.1 == b.1 && foldF a.2.2 == foldF b.2.2
def hasA (r : List Attr) (a : Attr) : Bool := r.any fun b => sameB a b
def sameZ (a b : List Attr) (l : List (Attr × Attr)) : Bool := l.all fun p => hasA b p.1 && hasA a p.2
def sameR (a b : List Attr) : Bool := decide (a.length = b.length) && sameZ a b (a.zip b)
def withinN (n base : Name) : Bool := decide (base.length ≤ n.length) && (n.zip base).all fun p => sameR p.1 p.2
end Go.Proofs.YtahamclodagihaaGreatDoor
namespace Go.Proofs.YtahamclodagihaaGreatDoor
open Go.RowKit Go.ChangeShapes Go.WideShapes Go.ChangeAt
open Go.ChangeMaps (open_string)
section
variable {H : Type} {enc : TypeId × Value → H} {P : Program} {W W' : World}
theorem trodAll_below (hl : laidOutB P = true) : ∀ (ts : List TypeId) (vs : List Value) (ds : List (DataW H)) (p : List MemPlace), (∀ t ∈ ts, P.readableRec t = true ∧ t < P.types.size) →
    DataW.TrodAll enc P W 0 (fun _ => true) true ts vs ds p → Below W.heap.size W W' → (∀ x ∈ p, x.block < W.heap.size) → DataW.TrodAll enc P W' 0 (fun b => decide (b < W.heap.size)) true ts vs ds p
  | [], [], [], p, _, h, _, _ => h
  | t :: ts, v :: vs, d :: ds, p, hr, h, hb, hlt => by
    obtain ⟨p1, q1, h1, h2, rfl⟩ := h
    have ht := hr t (by simp)
    exact ⟨p1, q1, Below.trod hl ht.1 ht.2 h1 hb (fun x hx => hlt x (by simp [hx])), trodAll_below hl ts vs ds q1 (fun t' ht' => hr t' (by simp [ht'])) h2 hb (fun x hx => hlt x (by simp [hx])), rfl⟩
  | [], [], _ :: _, _, _, h, _, _ => h.elim
  | [], _ :: _, _, _, _, h, _, _ => h.elim
  | _ :: _, [], _, _, _, h, _, _ => h.elim
  | _ :: _, _ :: _, [], _, _, h, _, _ => h.elim
theorem law_post {f : Func} {s : ChangeSpec} {args : Array Value} {ds gs : List (DataW H)} {before : List MemPlace} {tb : TypeId} (hl : laidOutB P = true) (hrd : ∀ t ∈ f.params.toList, P.readableRec t = true ∧ t < P.types.size)
  (hvars : s.vars = []) (hres : f.resultTypes = #[tb]) (htb : P.underlying tb = some .bool)
  (hW : DataW.Whole enc P f.params.toList s.vars false W args.toList ds gs before)
  (hfn : s.fn H (ds ++ gs) = { results := [.lit (.bool true)], args := ds }) (hb : Below W.heap.size W W') :
  s.post enc P f false true false false W args (.bool true) W' := by
 have hlt : ∀ x ∈ before, x.block < W.heap.size := fun x hx => hW.lt x hx
 have hW2 := hW
 obtain ⟨p, q, hA, hV, rfl, _, _⟩ := hW
 rw [hvars] at hV
 obtain ⟨rfl, rfl⟩ := trodVars_none hV
 rw [List.append_nil] at hlt
 refine ⟨ds, [], p ++ [], [], p, [], hW2, ?_, ?_, ?_, hb.frame _, fun h => by cases h⟩
 ·rw [hres, hfn]
  exact trodAll_mk1 (shut_bool htb true)
 ·rw [hfn]
  exact trodAll_below hl _ _ _ _ hrd hA hb hlt
 ·rw [hvars, hfn]
  exact rfl
end
end Go.Proofs.YtahamclodagihaaGreatDoor
namespace Go.Proofs.YtahamclodagihaaGreatDoor
open Go.RowKit Go.ChangeShapes Go.WideShapes Go.ChangeAt
section
variable {H : Type} {enc : TypeId × Value → H} {P : Program} {W W' : World}
abbrev RIntK (k : IntKind) : Rep Int := Pu (fun n => [.int k n])
theorem RIntK.ok (k : IntKind) : RepOk (RIntK k) 1 := Pu.ok (fun _ => rfl) (fun x u hu => by simp at hu; subst hu; rfl)
theorem open_intk {t e : TypeId} {k : IntKind} {v : Value} {d : DataW H} {p : List MemPlace} {base : Nat} (hu : P.underlying t = some (.slice e)) (he : P.underlying e = some (.int k)) (hc : P.cellsOf e = 1)
    (hval : Value.okWide P W .any base t v) (h : DataW.Trod enc P W 0 (fun _ => true) true t v d p) (_hlt : ∀ x ∈ p, x.block < W.heap.size) :
    ∃ l A n c, v = .slice A n c ∧ Sl (RIntK k) 1 W (Lt W.heap.size) l [.slice A n c] ∧ ∀ x ∈ l, (Lit.int k x).wf = true := by
  obtain ⟨A, n, c, rfl⟩ := okWide_slice hu hval
  obtain ⟨fuel, hf⟩ := h
  rcases open_ints hu he hc hf with ⟨hcs, _⟩ | ⟨a, len, cap, zs, hcs, _, hl, hm, hz, hx, hcell, hwf⟩
  · simp only [Value.cells, List.cons.injEq, Value.slice.injEq, and_true] at hcs
    obtain ⟨rfl, rfl, rfl⟩ := hcs
    exact ⟨[], none, 0, 0, rfl, Sl.nil _ _ _ _, fun x hx => by cases hx⟩
  · simp only [Value.cells, List.cons.injEq, Value.slice.injEq, and_true] at hcs
    obtain ⟨rfl, rfl, rfl⟩ := hcs
    simp only [if_true] at hz
    refine ⟨zs.take n, some a, n, c, rfl, ?_, fun x hx => hwf x (List.mem_of_mem_take hx)⟩
    have hlen : (zs.take n).length = n := by simp; omega
    refine ⟨some a, c, by rw [hlen], by rw [hlen]; exact hl, hm, fun h0 => ?_⟩
    rw [hlen] at h0
    obtain ⟨b, off, rfl, hc2⟩ := ints_at hcell (by omega)
    refine ⟨b, off, rfl, World.block_lt_of_cell? W _ (hc2 0 (by omega)), fun i x hx => ⟨_, rfl, fun j u hu => ?_⟩⟩
    have hin : i < n := by have := (List.getElem?_eq_some_iff.1 hx).1; rw [hlen] at this; exact this
    match j, hu with
    | 0, hu =>
      simp at hu
      subst hu
      rw [Nat.mul_one, Nat.add_zero, hc2 i (by omega)]
      rw [List.getElem?_take, if_pos hin] at hx
      simp [List.getD, hx]
end
theorem mx_of {W : World} (h : W.ShapedOpen Tryz.prog) : Mx W :=
 cell_of_shapedOpen_int (t := 3) (zero := #[.int .i64 0]) h (of_decide_eq_true (by kernel_rfl)) (by kernel_rfl) rfl (by kernel_rfl) (by kernel_rfl) Tryz.underlying3
end Go.Proofs.YtahamclodagihaaGreatDoor
