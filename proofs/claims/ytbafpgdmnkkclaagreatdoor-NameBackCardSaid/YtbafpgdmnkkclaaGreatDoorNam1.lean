/- Names that the laws make: the table of attributes, good names, other spellings; plain laws. -/
import Derived.Test.YtbafpgdmnkkclaaGreatDoorNam2
import Derived.Test.YtbafpgdmnkkclaaGreatDoorDecA
namespace Go.Proofs.YtbafpgdmnkkclaaGreatDoor
open Go.RowKit

def attTab : List Attr := [([50, 46, 53, 46, 52, 46, 51], 12, [65, 110, 110]), ([50, 46, 53, 46, 52, 46, 51], 19, [32, 97, 110, 110]), ([50, 46, 53, 46, 52, 46, 51], 12, [103, 114, 195, 182, 195, 159, 101]), ([50, 46, 53, 46, 52, 46, 54], 19, [85, 83]), ([50, 46, 53, 46, 52, 46, 49, 48], 19, [69, 120, 97, 109, 112, 108, 101, 32, 32, 67, 111, 114, 112]), ([50, 46, 53, 46, 52, 46, 49, 48], 12, [101, 120, 97, 109, 112, 108, 101, 32, 99, 111, 114, 112]), ([50, 46, 53, 46, 52, 46, 49, 49], 22, [97, 44, 98, 43, 99, 61, 100, 92, 101]), ([48, 46, 57, 46, 50, 51, 52, 50, 46, 49, 57, 50, 48, 48, 51, 48, 48, 46, 49, 48, 48, 46, 49, 46, 50, 53], 22, [111, 114, 103]), ([49, 46, 50, 46, 56, 52, 48, 46, 49, 49, 51, 53, 52, 57, 46, 49, 46, 57, 46, 49], 22, [97, 110, 110, 64, 101, 120, 97, 109, 112, 108, 101, 46, 111, 114, 103]), ([49, 46, 50, 46, 56, 52, 48, 46, 49, 49, 51, 53, 52, 57, 46, 49, 46, 57, 46, 49], 22, [110, 111, 32, 97, 100, 100, 114, 101, 115, 115]), ([50, 46, 53, 46, 52, 46, 57, 57], 19, [120]), ([50, 46, 53, 46, 52, 46, 55], 12, [76])]
def attAt (m : Nat) : Attr := attTab.getD m ([], 0, [])
theorem attAt_mem (m : Nat) (h : m < 12) : attAt m ∈ attTab := by
  unfold attAt
  rw [List.getD_eq_getElem?_getD, List.getElem?_eq_getElem (show m < attTab.length from h)]
  exact List.getElem_mem _
/-- a relative name, a name as the laws make it -/
def GoodR (r : List Attr) : Prop := (∃ a ∈ attTab, r = [a]) ∨ ∃ a ∈ attTab, ∃ b ∈ attTab, r = [a, b] ∧ a.1 ≠ b.1
def GoodN (n : Name) : Prop := n.length ≤ 3 ∧ ∀ r ∈ n, GoodR r
/-- the sizes of a name -/
def BndA (B : Nat) (a : Attr) : Prop := a.1.length ≤ 1000 ∧ a.2.2.length ≤ B
def BndR (B : Nat) (r : List Attr) : Prop := r.length ≤ 10 ∧ ∀ a ∈ r, BndA B a
def BndN (B : Nat) (n : Name) : Prop := n.length ≤ 10 ∧ ∀ r ∈ n, BndR B r
theorem BndN.small {B : Nat} {n : Name} (h : BndN B n) (hB : B ≤ 100000) : SmallN n := fun r hr a ha => by
  obtain ⟨h1, h2⟩ := (h.2 r hr).2 a ha
  exact ⟨by omega, by omega⟩
theorem attTab_bnd : ∀ a ∈ attTab, BndA 15 a := by
  unfold BndA
  decide
theorem GoodR.bnd {r : List Attr} (h : GoodR r) : BndR 15 r := by
  rcases h with ⟨a, ha, rfl⟩ | ⟨a, ha, b, hb, rfl, _⟩
  · exact ⟨by simp, fun x hx => by simp at hx; subst hx; exact attTab_bnd x ha⟩
  · refine ⟨by simp, fun x hx => ?_⟩
    simp only [List.mem_cons, List.not_mem_nil, or_false] at hx
    rcases hx with rfl | rfl
    · exact attTab_bnd x ha
    · exact attTab_bnd x hb
theorem GoodN.bnd {n : Name} (h : GoodN n) : BndN 15 n := ⟨by have := h.1; omega, fun r hr => (h.2 r hr).bnd⟩
theorem BndN.take {B k : Nat} {n : Name} (h : BndN B n) : BndN B (n.take k) :=
  ⟨by rw [List.length_take]; have := h.1; omega, fun r hr => h.2 r (List.mem_of_mem_take hr)⟩

/-! ### other spellings -/
def SpA (a b : Attr) : Prop := b.1 = a.1 ∧ foldF b.2.2 = foldF a.2.2 ∧ b.2.2.length ≤ a.2.2.length + 1
theorem SpA.same {a b : Attr} (h : SpA a b) : sameB a b = true := (sameB_iff a b).2 ⟨h.1.symm, h.2.1.symm⟩
def SpR (r l : List Attr) : Prop := l.length = r.length ∧ (∀ x ∈ r, ∃ y ∈ l, SpA x y) ∧ ∀ y ∈ l, ∃ x ∈ r, SpA x y
theorem SpR.nil : SpR [] [] := ⟨rfl, (fun x hx => by cases hx), (fun x hx => by cases hx)⟩
theorem SpR.snoc {r l : List Attr} {a b : Attr} (h : SpR r l) (hab : SpA a b) : SpR (r ++ [a]) (b :: l) := by
  obtain ⟨h1, h2, h3⟩ := h
  refine ⟨by simp [h1], fun x hx => ?_, fun y hy => ?_⟩
  · rcases List.mem_append.1 hx with hx | hx
    · obtain ⟨y, hy, hs⟩ := h2 x hx
      exact ⟨y, List.mem_cons_of_mem _ hy, hs⟩
    · simp at hx; subst hx
      exact ⟨b, by simp, hab⟩
  · rcases List.mem_cons.1 hy with rfl | hy
    · exact ⟨a, by simp, hab⟩
    · obtain ⟨x, hx, hs⟩ := h3 y hy
      exact ⟨x, List.mem_append_left _ hx, hs⟩
theorem SpR.same {r l : List Attr} (h : SpR r l) : sameR r l = true := by
  obtain ⟨h1, h2, h3⟩ := h
  refine (sameR_iff r l).2 ⟨h1.symm, fun x hx => ?_, fun y hy => ?_⟩
  · obtain ⟨y, hy, hs⟩ := h2 x hx
    exact (hasA_iff _ _).2 ⟨y, hy, hs.same⟩
  · obtain ⟨x, hx, hs⟩ := h3 y hy
    exact (hasA_iff _ _).2 ⟨x, hx, sameB_symm hs.same⟩
theorem SpR.bnd {B : Nat} {r l : List Attr} (h : SpR r l) (hr : BndR B r) : BndR (B + 1) l := by
  obtain ⟨h1, h2, h3⟩ := h
  refine ⟨by have := hr.1; omega, fun y hy => ?_⟩
  obtain ⟨x, hx, e1, e2, e3⟩ := h3 y hy
  obtain ⟨b1, b2⟩ := hr.2 x hx
  exact ⟨by rw [e1]; exact b1, by omega⟩
def SpN : Name → Name → Prop
  | [], [] => True
  | a :: n, b :: m => SpR a b ∧ SpN n m
  | _, _ => False
theorem SpN.same : ∀ {n m : Name}, SpN n m → NSame n m
  | [], [], _ => trivial
  | _ :: _, _ :: _, h => ⟨h.1.same, SpN.same h.2⟩
  | [], _ :: _, h => h.elim
  | _ :: _, [], h => h.elim
theorem SpN.snoc : ∀ {n m : Name} {r l : List Attr}, SpN n m → SpR r l → SpN (n ++ [r]) (m ++ [l])
  | [], [], _, _, _, h => ⟨h, trivial⟩
  | _ :: _, _ :: _, _, _, h, k => ⟨h.1, SpN.snoc h.2 k⟩
  | [], _ :: _, _, _, h, _ => h.elim
  | _ :: _, [], _, _, h, _ => h.elim
theorem SpN.bndR : ∀ {B : Nat} {n m : Name}, SpN n m → (∀ r ∈ n, BndR B r) → ∀ l ∈ m, BndR (B + 1) l
  | _, [], [], _, _, l, hl => by cases hl
  | _, a :: n, b :: m, h, hn, l, hl => by
    rcases List.mem_cons.1 hl with rfl | hl
    · exact h.1.bnd (hn a (by simp))
    · exact SpN.bndR h.2 (fun r hr => hn r (by simp [hr])) l hl
  | _, [], _ :: _, h, _, _, _ => h.elim
  | _, _ :: _, [], h, _, _, _ => h.elim
theorem SpN.bnd {B : Nat} {n m : Name} (h : SpN n m) (hn : BndN B n) : BndN (B + 1) m :=
  ⟨by have := h.same.len; have := hn.1; omega, h.bndR hn.2⟩
theorem SpA.mk' {a : Attr} {k : Int} {v : List UInt8} (h : v = a.2.2 ∨ v = 32 :: a.2.2 ∨ v = a.2.2.map low) : SpA a (a.1, k, v) := by
  refine ⟨rfl, ?_, ?_⟩
  · show foldF v = _
    rcases h with rfl | rfl | rfl
    · rfl
    · exact foldF_space _
    · exact foldF_low _
  · show v.length ≤ _
    rcases h with rfl | rfl | rfl <;> simp

/-! ### good names pass Check -/
theorem chkR_one : ∀ a ∈ attTab, chkR [a] = 0 := by decide +kernel
theorem chkR_two : ∀ a ∈ attTab, ∀ b ∈ attTab, a.1 ≠ b.1 → chkR [a, b] = 0 := by decide +kernel
theorem GoodR.chk {r : List Attr} (h : GoodR r) : chkR r = 0 := by
  rcases h with ⟨a, ha, rfl⟩ | ⟨a, ha, b, hb, rfl, hab⟩
  · exact chkR_one a ha
  · exact chkR_two a ha b hb hab
theorem chkRs_good : ∀ {n : Name}, (∀ r ∈ n, GoodR r) → chkRs n = 0
  | [], _ => rfl
  | r :: n, h => by rw [chkRs, if_pos (h r (by simp)).chk, chkRs_good (fun x hx => h x (by simp [hx]))]
theorem GoodN.chk {n : Name} (h : GoodN n) : chkN n = 0 := by
  have := h.1
  rw [chkN, if_neg (by omega), chkRs_good h.2]
end Go.Proofs.YtbafpgdmnkkclaaGreatDoor

/- Names that the laws make: the deck, one attribute. -/
namespace Go.Proofs.YtbafpgdmnkkclaaGreatDoor
open Go.RowKit

theorem NB.ex {g d : Nat} {v : Value} {W W' : World} (h : NB g v W) (hx : Ex d W W') (hd : g ≠ d) : NB g v W' := (hx.at_ h.lt hd).trans h
theorem ResAtt.ex {g d : Nat} {W W' : World} (h : ResAtt g W) (hx : Ex d W W') (hd : g ≠ d) : ResAtt g W' := (hx.at_ (Array.getElem?_eq_some_iff.1 h).1 hd).trans h

/-! ### one attribute -/
theorem att_at {d : Nat} {w w1 : World} {o : Obj} {C : Array Value} {t : TypeId} (hex : Ex d ((w.alloc o).alloc (.cells C t)) w1) (hd : d < w.heap.size) (hC : C.toList = attTab.flatMap attC) {v : Nat} (hv : v < 12) :
    w1.cell? ⟨w.heap.size + 1, v * 3, none⟩ = some (.string ⟨(attAt v).1.toArray⟩) ∧ w1.cell? ⟨w.heap.size + 1, v * 3 + 1, none⟩ = some (.int .i64 (attAt v).2.1) ∧ w1.cell? ⟨w.heap.size + 1, v * 3 + 2, none⟩ = some (.string ⟨(attAt v).2.2.toArray⟩) := by
  have hy : attTab[v]? = some (attAt v) := by
    unfold attAt
    rw [List.getD_eq_getElem?_getD, List.getElem?_eq_getElem (show v < attTab.length from hv)]; rfl
  obtain ⟨cs, h1, h2⟩ := news_pu (f := attC) (size := 3) (fun _ => rfl) (w.alloc o) No C t attTab hC v _ hy
  have hcs : cs = attC (attAt v) := h1
  subst hcs
  have key : ∀ j u, (attC (attAt v))[j]? = some u → w1.cell? ⟨w.heap.size + 1, v * 3 + j, none⟩ = some u := fun j u hu => by
    have := h2 j u hu
    rw [Addr.add_lit, Nat.zero_add, World.size_alloc] at this
    exact (hex.cell (p := ⟨w.heap.size + 1, v * 3 + j, none⟩) (by simp) (by show w.heap.size + 1 ≠ d; omega)).trans this
  exact ⟨key 0 _ rfl, key 1 _ rfl, key 2 _ rfl⟩
def AttPost (d : Nat) (w : World) (e : Ending) (w' : World) : Prop :=
  ∃ (ta va : ByteArray) (k : Int), (ta.data.toList, k, va.data.toList) ∈ attTab ∧ e = .returned (.agg #[.string ta, .int .i64 k, .string va]) ∧ DeckAt w' d ∧ Ex d w w'

set_option maxRecDepth 100000 in
set_option maxHeartbeats 4000000 in
theorem attribute_any (d : Nat) (w : World) (h : DeckAt w d) : Calls Tryz.prog 34 #[.pointer (some ⟨d, 0, none⟩)] w (AttPost d w) := by
  have hd := h.lt
  have HDK := hide (fun o1 o2 => (h.alloc o1).alloc o2)
  clear h
  go_enter Tryz.func34, Tryz.ntmps34
  go_wp2_with fail
  refine (Next_any d 12 (by omega) (by omega) _ (HDK.out _ _)).mono ?_
  rintro e w1 ⟨v, hv, rfl, hdk, hex⟩
  obtain ⟨c0, c1, c2⟩ := att_at hex hd rfl hv
  have hra : ResAtt w.heap.size w1 := ResAtt.ex (by
    unfold ResAtt
    rw [Below.heap_alloc _ _ _ (by simp)]
    exact heap_alloc_new w _) hex (by omega)
  have HX := hide (show Ex d w w1 from (((Ex.refl d w).alloc _).alloc _).trans hex)
  have HDK := hide hdk
  have HRA := hide hra
  obtain ⟨r0, r1, r2, f0, f1, f2⟩ := hra.facts
  have HM := hide (attAt_mem v hv)
  obtain ⟨a, ha⟩ : ∃ a, attAt v = a := ⟨_, rfl⟩
  rw [ha] at c0 c1 c2 HM
  obtain ⟨ta, hta⟩ : ∃ ta : ByteArray, ta = ⟨a.1.toArray⟩ := ⟨_, rfl⟩
  obtain ⟨va, hva⟩ : ∃ va : ByteArray, va = ⟨a.2.2.toArray⟩ := ⟨_, rfl⟩
  obtain ⟨k, hk⟩ : ∃ k, a.2.1 = k := ⟨_, rfl⟩
  rw [← hta] at c0
  rw [hk] at c1
  rw [← hva] at c2
  have HE := hide (show (ta.data.toList, k, va.data.toList) ∈ attTab by rw [hta, hva, ← hk]; exact HM.out)
  have hv1 : (v : Int) < 12 := by omega
  have hv0 : (0 : Int) ≤ (v : Int) := by omega
  clear hex hdk hra ha hta hva hk
  go_wp2_with fail
  obtain ⟨q0, q1, q2⟩ := HRA.out.store (.string ta) (.int .i64 k) (.string va)
  have hx3 := ((HX.out.setNew (g := w.heap.size) (j := 0) (Nat.le_refl _) (.string ta)).setNew (g := w.heap.size) (j := 1) (Nat.le_refl _) (.int .i64 k)).setNew (g := w.heap.size) (j := 2) (Nat.le_refl _) (.string va)
  have hd3 := ((HDK.out.set_ (g := w.heap.size) (j := 0) hd (.string ta)).set_ (g := w.heap.size) (j := 1) hd (.int .i64 k)).set_ (g := w.heap.size) (j := 2) hd (.string va)
  obtain ⟨W3, hW3⟩ : ∃ W3, W3 = ((w1.setCell ⟨w.heap.size, 0, none⟩ (.string ta)).setCell ⟨w.heap.size, 1, none⟩ (.int .i64 k)).setCell ⟨w.heap.size, 2, none⟩ (.string va) := ⟨_, rfl⟩
  rw [← hW3] at q0 q1 q2 hx3 hd3 ⊢
  exact bodyPost_ret (v := .agg #[.string ta, .int .i64 k, .string va]) (by simp [results, Tryz.results34, go_sem, q0, q1, q2]) rfl ⟨ta, va, k, HE.out, rfl, hd3, hx3⟩
end Go.Proofs.YtbafpgdmnkkclaaGreatDoor
