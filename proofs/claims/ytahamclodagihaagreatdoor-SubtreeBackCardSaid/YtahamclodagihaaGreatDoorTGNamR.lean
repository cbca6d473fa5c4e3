/- The functions of package dname: Parse. -/
import Derived.Test.YtahamclodagihaaGreatDoorTGNamD
import Derived.Test.YtahamclodagihaaGreatDoorTGLibD
namespace Go.Proofs.YtahamclodagihaaGreatDoor
open Go.RowKit
theorem info_rdn : (Tryz.prog.info? 33).map (fun i => (i.zero, i.size, i.bytes)) = some (some (.slice none 0 0), 1, 24) := by kernel_rfl
theorem info_att : (Tryz.prog.info? 27).map (fun i => (i.zero, i.size, i.bytes)) = some (some (.agg #[.string ⟨#[]⟩, .int .i64 0, .string ⟨#[]⟩]), 3, 40) := by kernel_rfl
def NB (g : Nat) (v : Value) (W : World) : Prop := W.heap[g]? = some (.cells #[v] 24 (0, 0))
theorem NB.facts {g : Nat} {v : Value} {W : World} (h : NB g v W) : W.cell? ⟨g, 0, none⟩ = some v ∧ W.frozen? ⟨g, 0, none⟩ = false := by
 unfold NB at h
 simp [World.cell?, World.frozen?, h]
theorem NB.lt {g : Nat} {v : Value} {W : World} (h : NB g v W) : g < W.heap.size := (Array.getElem?_eq_some_iff.1 h).1
theorem NB.below {g : Nat} {v : Value} {W W' : World} (h : NB g v W) (hb : Below W.heap.size W W') : NB g v W' := (hb.block g h.lt).trans h
theorem NB.other {g g' j : Nat} {v u : Value} {W : World} (h : NB g v W) (hne : g ≠ g') : NB g v (W.setCell ⟨g', j, none⟩ u) := (Below.heap_setCell W ⟨g', j, none⟩ u g hne).trans h
theorem NB.store {g : Nat} {v : Value} {W : World} (h : NB g v W) (u : Value) : NB g u (W.setCell ⟨g, 0, none⟩ u) := by
 unfold NB at *
 simp [World.setCell, Array.getElem?_modify, h]
theorem Own.other {α : Type} {R : Rep α} {size : Nat} {e : TypeId} {w : World} {base : Nat} {S : Nat → Prop} {v : Value} {l : List α} (hR : RepOk R size) (h : Own R size e w base S v l) (hS : ∀ k, S k → base ≤ k) {g j : Nat} (hg : g < base) (u : Value) :
  Own R size e (w.setCell ⟨g, j, none⟩ u) base S v l :=
 Own.keep hR h (fun k hk => Below.heap_setCell w _ u k (by have := (h.lt k hk).1; show k ≠ g; omega)) (fun k hk => Below.heap_setCell w _ u k (by have := hS k hk; show k ≠ g; omega)) (fun _ hk => hk) (by obtain ⟨_, _, h2, _⟩ := h; exact h2)
theorem Ex.then_base {d : Nat} {a b c : World} (h : Ex d a b) (k : Below a.heap.size b c) : Ex d a c :=
 ⟨k.os.trans h.os, k.tape.trans h.tape, k.output.trans h.output, Nat.le_trans h.size k.size, fun j hj hne => (k.block j hj).trans (h.block j hj hne)⟩
theorem news_one {α : Type} {R : Rep α} {w : World} {S : Nat → Prop} {x : Value} {y : α} {t : TypeId} (h : R (w.alloc (.cells #[x] t)) S y [x]) :
    ∀ i z, [y][i]? = some z → ∃ cs, R (w.alloc (.cells #[x] t)) S z cs ∧ ∀ j u, cs[j]? = some u → (w.alloc (.cells #[x] t)).cell? ((⟨w.heap.size, 0, none⟩ : Addr).add (i * 1 + j)) = some u := by
  intro i z hz
  match i, hz with
  | 0, hz =>
    simp at hz; subst hz
    refine ⟨[x], h, fun j u hu => ?_⟩
    match j, hu with
    | 0, hu =>
      simp at hu; subst hu
      rw [Addr.add_lit, World.cell?_alloc_new]; rfl
theorem news_att (w : World) (S : Nat → Prop) (t : TypeId) (a : Attr) :
  ∀ i y, [a][i]? = some y → ∃ cs, RAttr (w.alloc (.cells #[.string ⟨a.1.toArray⟩, .int .i64 a.2.1, .string ⟨a.2.2.toArray⟩] t)) S y cs ∧ ∀ j u, cs[j]? = some u → (w.alloc (.cells #[.string ⟨a.1.toArray⟩, .int .i64 a.2.1, .string ⟨a.2.2.toArray⟩] t)).cell? ((⟨w.heap.size, 0, none⟩ : Addr).add (i * 3 + j)) = some u :=
 news_pu (f := attC) (size := 3) (fun _ => rfl) w S #[.string ⟨a.1.toArray⟩, .int .i64 a.2.1, .string ⟨a.2.2.toArray⟩] t [a] rfl
theorem split_v (s : ByteArray) (hs : s.size ≤ 1000000) (c : UInt8) (w : World) (hmx : Mx w) :
  Calls Tryz.prog 69 #[.string s, .string ⟨#[c]⟩] w fun e w' => e = .returned (.slice (some ⟨w.heap.size, 0, none⟩) (splitC c s.data.toList).length (splitC c s.data.toList).length) ∧ Below w.heap.size w w' ∧ w'.heap.size = w.heap.size + 1 ∧
   Sl RStr 1 w' (Lt w'.heap.size) (splitC c s.data.toList) [.slice (some ⟨w.heap.size, 0, none⟩) (splitC c s.data.toList).length (splitC c s.data.toList).length] := by
 obtain ⟨m, hm⟩ := hmx
 refine (Tryz.strings_Split s ⟨#[c]⟩ m w (by omega) hm (Nat.le_refl 1)).mono fun e w' ⟨he, hw⟩ => ?_
 have hl := splitB_len c s
 have hc := splitB_C c s
 have hl2 : (splitC c s.data.toList).length = Lib.countB s ⟨#[c]⟩ + 1 := by rw [← hc, List.length_map, hl]
 have hcl := splitC_len c s.data.toList
 rw [size_string] at hcl
 refine ⟨by rw [he, hl2], by rw [hw]; exact (Below.refl _ _).alloc (Nat.le_refl _) _, by rw [hw]; simp, ?_⟩
 rw [hw]
 refine sl_new (f := strC) (size := 1) (fun _ => rfl) w _ _ _ ?_ (by unfold maxLen; omega)
 rw [← hc]
 show (List.map Value.string _) = _
 generalize Lib.splitB ⟨#[c]⟩ 0 (Lib.countB s ⟨#[c]⟩) s = L
 induction L with
 | nil => rfl
 | cons x L ih => rw [List.map_cons, List.map_cons, List.flatMap_cons, ← ih]; rfl
def ParsePostB (w : World) (p : Int × Name) (e : Ending) (w' : World) : Prop :=
 ∃ v, e = .returned (.tuple #[.agg #[v], .int .i64 p.1]) ∧ Sl RRdn 1 w' (Btw w.heap.size w'.heap.size) p.2 [v] ∧ Below w.heap.size w w' ∧ SmallN p.2
end Go.Proofs.YtahamclodagihaaGreatDoor
namespace Go.Proofs.YtahamclodagihaaGreatDoor
open Go.RowKit
def attTab : List Attr := [([50, 46, 53, 46, 52, 46, 51], 12, [65, 110, 110]), ([50, 46, 53, 46, 52, 46, 51], 19, [32, 97, 110, 110]), ([50, 46, 53, 46, 52, 46, 51], 12, [103, 114, 195, 182, 195, 159, 101]), ([50, 46, 53, 46, 52, 46, 54], 19, [85, 83]), ([50, 46, 53, 46, 52, 46, 49, 48], 19, [69, 120, 97, 109, 112, 108, 101, 32, 32, 67, 111, 114, 112]), ([50, 46, 53, 46, 52, 46, 49, 48], 12, [101, 120, 97, 109, 112, 108, 101, 32, 99, 111, 114, 112]), ([50, 46, 53, 46, 52, 46, 49, 49], 22, [97, 44, 98, 43, 99, 61, 100, 92, 101]), ([48, 46, 57, 46, 50, 51, 52, 50, 46, 49, 57, 50, 48, 48, 51, 48, 48, 46, 49, 48, 48, 46, 49, 46, 50, 53], 22, [111, 114, 103]), ([49, 46, 50, 46, 56, 52, 48, 46, 49, 49, 51, 53, 52, 57, 46, 49, 46, 57, 46, 49], 22, [97, 110, 110, 64, 101, 120, 97, 109, 112, 108, 101, 46, 111, 114, 103]), ([49, 46, 50, 46, 56, 52, 48, 46, 49, 49, 51, 53, 52, 57, 46, 49, 46, 57, 46, 49], 22, [110, 111, 32, 97, 100, 100, 114, 101, 115, 115]), ([50, 46, 53, 46, 52, 46, 57, 57], 19, [120]), ([50, 46, 53, 46, 52, 46, 55], 12, [76])]
def attAt (m : Nat) : Attr := attTab.getD m ([], 0, [])
theorem attAt_mem (m : Nat) (h : m < 12) : attAt m ∈ attTab := by
 unfold attAt
 rw [List.getD_eq_getElem?_getD, List.getElem?_eq_getElem (show m < attTab.length from h)]
 exact List.getElem_mem _
def GoodR (r : List Attr) : Prop := (∃ a ∈ attTab, r = [a]) ∨ ∃ a ∈ attTab, ∃ b ∈ attTab, r = [a, b] ∧ a.1 ≠ b.1
def GoodN (n : Name) : Prop := n.length ≤ 3 ∧ ∀ r ∈ n, GoodR r
def BndA (B : Nat) (a : Attr) : Prop := a.1.length ≤ 1000 ∧ a.2.2.length ≤ B
def BndR (B : Nat) (r : List Attr) : Prop := r.length ≤ 10 ∧ ∀ a ∈ r, BndA B a
def BndN (B : Nat) (n : Name) : Prop := n.length ≤ 10 ∧ ∀ r ∈ n, BndR B r
theorem BndN.small {B : Nat} {n : Name} (h : BndN B n) (hB : B ≤ 100000) : SmallN n := fun r hr a ha => by
 obtain ⟨h1, h2⟩ := (h.2 r hr).2 a ha
 exact ⟨by omega, by omega⟩
theorem attTab_bnd : ∀ a ∈ attTab, BndA 15 a := by
 unfold BndA
 decide
theorem GoodR.bnd {r : List Attr} (h : GoodR r) : BndR 15 r := by
 rcases h with ⟨a, ha, rfl⟩ | ⟨a, ha, b, hb, rfl, _⟩
 ·exact ⟨by simp, fun x hx => by simp at hx; subst hx; exact attTab_bnd x ha⟩
 ·refine ⟨by simp, fun x hx => ?_⟩
  simp only [List.mem_cons, List.not_mem_nil, or_false] at hx
  rcases hx with rfl | rfl
  ·exact attTab_bnd x ha
  ·exact attTab_bnd x hb
theorem GoodN.bnd {n : Name} (h : GoodN n) : BndN 15 n := ⟨by have := h.1; omega, fun r hr => (h.2 r hr).bnd⟩
theorem BndN.take {B k : Nat} {n : Name} (h : BndN B n) : BndN B (n.take k) :=
 ⟨by rw [List.length_take]; have := h.1; omega, fun r hr => h.2 r (List.mem_of_mem_take hr)⟩
theorem chkR_one : ∀ a ∈ attTab, chkR [a] = 0 := by decide +kernel
theorem chkR_two : ∀ a ∈ attTab, ∀ b ∈ attTab, a.1 ≠ b.1 → chkR [a, b] = 0 := by decide +kernel
theorem GoodR.chk {r : List Attr} (h : GoodR r) : chkR r = 0 := by
 rcases h with ⟨a, ha, rfl⟩ | ⟨a, ha, b, hb, rfl, hab⟩
 ·exact chkR_one a ha
 ·exact chkR_two a ha b hb hab
theorem chkRs_good : ∀ {n : Name}, (∀ r ∈ n, GoodR r) → chkRs n = 0
 | [], _ => rfl
 | r :: n, h => by rw [chkRs, if_pos (h r (by simp)).chk, chkRs_good (fun x hx => h x (by simp [hx]))]
theorem GoodN.chk {n : Name} (h : GoodN n) : chkN n = 0 := by
 have := h.1
 rw [chkN, if_neg (by omega), chkRs_good h.2]
end Go.Proofs.YtahamclodagihaaGreatDoor
namespace Go.Proofs.YtahamclodagihaaGreatDoor
open Go.RowKit
theorem NB.ex {g d : Nat} {v : Value} {W W' : World} (h : NB g v W) (hx : Ex d W W') (hd : g ≠ d) : NB g v W' := (hx.at_ h.lt hd).trans h
theorem ResAtt.ex {g d : Nat} {W W' : World} (h : ResAtt g W) (hx : Ex d W W') (hd : g ≠ d) : ResAtt g W' := (hx.at_ (Array.getElem?_eq_some_iff.1 h).1 hd).trans h
theorem att_at {d : Nat} {w w1 : World} {o : Obj} {C : Array Value} {t : TypeId} (hex : Ex d ((w.alloc o).alloc (.cells C t)) w1) (hd : d < w.heap.size) (hC : C.toList = attTab.flatMap attC) {v : Nat} (hv : v < 12) :
  w1.cell? ⟨w.heap.size + 1, v * 3, none⟩ = some (.string ⟨(attAt v).1.toArray⟩) ∧ w1.cell? ⟨w.heap.size + 1, v * 3 + 1, none⟩ = some (.int .i64 (attAt v).2.1) ∧ w1.cell? ⟨w.heap.size + 1, v * 3 + 2, none⟩ = some (.string ⟨(attAt v).2.2.toArray⟩) := by
 have hy : attTab[v]? = some (attAt v) := by
  unfold attAt
  rw [List.getD_eq_getElem?_getD, List.getElem?_eq_getElem (show v < attTab.length from hv)]; rfl
 obtain ⟨cs, h1, h2⟩ := news_pu (f := attC) (size := 3) (fun _ => rfl) (w.alloc o) No C t attTab hC v _ hy
 have hcs : cs = attC (attAt v) := h1
 subst hcs
 have key : ∀ j u, (attC (attAt v))[j]? = some u → w1.cell? ⟨w.heap.size + 1, v * 3 + j, none⟩ = some u := fun j u hu => by
  have := h2 j u hu
  rw [Addr.add_lit, Nat.zero_add, World.size_alloc] at this
  exact (hex.cell (p := ⟨w.heap.size + 1, v * 3 + j, none⟩) (by simp) (by show w.heap.size + 1 ≠ d; omega)).trans this
 exact ⟨key 0 _ rfl, key 1 _ rfl, key 2 _ rfl⟩
def AttPost (d : Nat) (w : World) (e : Ending) (w' : World) : Prop :=
 ∃ (ta va : ByteArray) (k : Int), (ta.data.toList, k, va.data.toList) ∈ attTab ∧ e = .returned (.agg #[.string ta, .int .i64 k, .string va]) ∧ DeckAt w' d ∧ Ex d w w'
set_option maxRecDepth 100000 in
set_option maxHeartbeats 4000000 in
theorem attribute_any (d : Nat) (w : World) (h : DeckAt w d) : Calls Tryz.prog 53 #[.pointer (some ⟨d, 0, none⟩)] w (AttPost d w) := by
 have hd := h.lt
 have HDK := hide (fun o1 o2 => (h.alloc o1).alloc o2)
 clear h
 go_enter Tryz.func53, Tryz.ntmps53
 go_wp2_with fail
 refine (Next_any d 12 (by omega) (by omega) _ (HDK.out _ _)).mono ?_
 rintro e w1 ⟨v, hv, rfl, hdk, hex⟩
 obtain ⟨c0, c1, c2⟩ := att_at hex hd rfl hv
 have hra : ResAtt w.heap.size w1 := ResAtt.ex (by
  unfold ResAtt
  rw [Below.heap_alloc _ _ _ (by simp)]
  exact heap_alloc_new w _) hex (by omega)
 have HX := hide (show Ex d w w1 from (((Ex.refl d w).alloc _).alloc _).trans hex)
 have HDK := hide hdk
 have HRA := hide hra
 obtain ⟨r0, r1, r2, f0, f1, f2⟩ := hra.facts
 have HM := hide (attAt_mem v hv)
 obtain ⟨a, ha⟩ : ∃ a, attAt v = a := ⟨_, rfl⟩
 rw [ha] at c0 c1 c2 HM
 obtain ⟨ta, hta⟩ : ∃ ta : ByteArray, ta = ⟨a.1.toArray⟩ := ⟨_, rfl⟩
 obtain ⟨va, hva⟩ : ∃ va : ByteArray, va = ⟨a.2.2.toArray⟩ := ⟨_, rfl⟩
 obtain ⟨k, hk⟩ : ∃ k, a.2.1 = k := ⟨_, rfl⟩
 rw [← hta] at c0
 rw [hk] at c1
 rw [← hva] at c2
 have HE := hide (show (ta.data.toList, k, va.data.toList) ∈ attTab by rw [hta, hva, ← hk]; exact HM.out)
 have hv1 : (v : Int) < 12 := by omega
 have hv0 : (0 : Int) ≤ (v : Int) := by omega
 clear hex hdk hra ha hta hva hk
 go_wp2_with fail
 obtain ⟨q0, q1, q2⟩ := HRA.out.store (.string ta) (.int .i64 k) (.string va)
 have hx3 := ((HX.out.setNew (g := w.heap.size) (j := 0) (Nat.le_refl _) (.string ta)).setNew (g := w.heap.size) (j := 1) (Nat.le_refl _) (.int .i64 k)).setNew (g := w.heap.size) (j := 2) (Nat.le_refl _) (.string va)
 have hd3 := ((HDK.out.set_ (g := w.heap.size) (j := 0) hd (.string ta)).set_ (g := w.heap.size) (j := 1) hd (.int .i64 k)).set_ (g := w.heap.size) (j := 2) hd (.string va)
 obtain ⟨W3, hW3⟩ : ∃ W3, W3 = ((w1.setCell ⟨w.heap.size, 0, none⟩ (.string ta)).setCell ⟨w.heap.size, 1, none⟩ (.int .i64 k)).setCell ⟨w.heap.size, 2, none⟩ (.string va) := ⟨_, rfl⟩
 rw [← hW3] at q0 q1 q2 hx3 hd3 ⊢
 exact bodyPost_ret (v := .agg #[.string ta, .int .i64 k, .string va]) (by simp [results, Tryz.results53, go_sem, q0, q1, q2]) rfl ⟨ta, va, k, HE.out, rfl, hd3, hx3⟩
end Go.Proofs.YtahamclodagihaaGreatDoor
namespace Go.Proofs.YtahamclodagihaaGreatDoor
open Go.RowKit
end Go.Proofs.YtahamclodagihaaGreatDoor
