/- The functions of package dname: Parse. -/
import Derived.Test.YtodapmkdmkhhfaaGreatDoorNamQ
namespace Go.Proofs.YtodapmkdmkhhfaaGreatDoor
open Go.RowKit

theorem info_rdn : (Tryz.prog.info? 72).map (fun i => (i.zero, i.size, i.bytes)) = some (some (.slice none 0 0), 1, 24) := by kernel_rfl
theorem info_att : (Tryz.prog.info? 74).map (fun i => (i.zero, i.size, i.bytes)) = some (some (.agg #[.string ⟨#[]⟩, .int .i64 0, .string ⟨#[]⟩]), 3, 40) := by kernel_rfl
/-- a variable that holds a name -/
def NB (g : Nat) (v : Value) (W : World) : Prop := W.heap[g]? = some (.cells #[v] 30 (0, 0))
theorem NB.facts {g : Nat} {v : Value} {W : World} (h : NB g v W) : W.cell? ⟨g, 0, none⟩ = some v ∧ W.frozen? ⟨g, 0, none⟩ = false := by
  unfold NB at h
  simp [World.cell?, World.frozen?, h]
theorem NB.lt {g : Nat} {v : Value} {W : World} (h : NB g v W) : g < W.heap.size := (Array.getElem?_eq_some_iff.1 h).1
theorem NB.below {g : Nat} {v : Value} {W W' : World} (h : NB g v W) (hb : Below W.heap.size W W') : NB g v W' := (hb.block g h.lt).trans h
theorem NB.other {g g' j : Nat} {v u : Value} {W : World} (h : NB g v W) (hne : g ≠ g') : NB g v (W.setCell ⟨g', j, none⟩ u) := (Below.heap_setCell W ⟨g', j, none⟩ u g hne).trans h
theorem NB.store {g : Nat} {v : Value} {W : World} (h : NB g v W) (u : Value) : NB g u (W.setCell ⟨g, 0, none⟩ u) := by
  unfold NB at *
  simp [World.setCell, Array.getElem?_modify, h]
theorem Own.other {α : Type} {R : Rep α} {size : Nat} {e : TypeId} {w : World} {base : Nat} {S : Nat → Prop} {v : Value} {l : List α} (hR : RepOk R size) (h : Own R size e w base S v l) (hS : ∀ k, S k → base ≤ k) {g j : Nat} (hg : g < base) (u : Value) :
    Own R size e (w.setCell ⟨g, j, none⟩ u) base S v l :=
  Own.keep hR h (fun k hk => Below.heap_setCell w _ u k (by have := (h.lt k hk).1; show k ≠ g; omega)) (fun k hk => Below.heap_setCell w _ u k (by have := hS k hk; show k ≠ g; omega)) (fun _ hk => hk) (by obtain ⟨_, _, h2, _⟩ := h; exact h2)

theorem Ex.then_base {d : Nat} {a b c : World} (h : Ex d a b) (k : Below a.heap.size b c) : Ex d a c :=
  ⟨k.os.trans h.os, k.tape.trans h.tape, k.output.trans h.output, Nat.le_trans h.size k.size, fun j hj hne => (k.block j hj).trans (h.block j hj hne)⟩
theorem news_one {α : Type} {R : Rep α} {w : World} {S : Nat → Prop} {x : Value} {y : α} {t : TypeId} (h : R (w.alloc (.cells #[x] t)) S y [x]) :
    ∀ i z, [y][i]? = some z → ∃ cs, R (w.alloc (.cells #[x] t)) S z cs ∧ ∀ j u, cs[j]? = some u → (w.alloc (.cells #[x] t)).cell? ((⟨w.heap.size, 0, none⟩ : Addr).add (i * 1 + j)) = some u := by
  intro i z hz
  match i, hz with
  | 0, hz =>
    simp at hz; subst hz
    refine ⟨[x], h, fun j u hu => ?_⟩
    match j, hu with
    | 0, hu =>
      simp at hu; subst hu
      rw [Addr.add_lit, World.cell?_alloc_new]; rfl
theorem news_att (w : World) (S : Nat → Prop) (t : TypeId) (a : Attr) :
    ∀ i y, [a][i]? = some y → ∃ cs, RAttr (w.alloc (.cells #[.string ⟨a.1.toArray⟩, .int .i64 a.2.1, .string ⟨a.2.2.toArray⟩] t)) S y cs ∧ ∀ j u, cs[j]? = some u → (w.alloc (.cells #[.string ⟨a.1.toArray⟩, .int .i64 a.2.1, .string ⟨a.2.2.toArray⟩] t)).cell? ((⟨w.heap.size, 0, none⟩ : Addr).add (i * 3 + j)) = some u :=
  news_pu (f := attC) (size := 3) (fun _ => rfl) w S #[.string ⟨a.1.toArray⟩, .int .i64 a.2.1, .string ⟨a.2.2.toArray⟩] t [a] rfl
theorem news_att2 (w : World) (ob : Obj) (S : Nat → Prop) (t : TypeId) (a : Attr) :
    ∀ i y, [a][i]? = some y → ∃ cs, RAttr ((w.alloc ob).alloc (.cells #[.string ⟨a.1.toArray⟩, .int .i64 a.2.1, .string ⟨a.2.2.toArray⟩] t)) S y cs ∧ ∀ j u, cs[j]? = some u → ((w.alloc ob).alloc (.cells #[.string ⟨a.1.toArray⟩, .int .i64 a.2.1, .string ⟨a.2.2.toArray⟩] t)).cell? ((⟨w.heap.size + 1, 0, none⟩ : Addr).add (i * 3 + j)) = some u := by
  have := news_att (w.alloc ob) S t a
  rw [World.size_alloc] at this
  exact this
/-- strings.Split at one byte: the pieces -/
theorem split_v (s : ByteArray) (hs : s.size ≤ 1000000) (c : UInt8) (w : World) (hmx : Mx w) :
    Calls Tryz.prog 110 #[.string s, .string ⟨#[c]⟩] w fun e w' => e = .returned (.slice (some ⟨w.heap.size, 0, none⟩) (splitC c s.data.toList).length (splitC c s.data.toList).length) ∧ Below w.heap.size w w' ∧ w'.heap.size = w.heap.size + 1 ∧
      Sl RStr 1 w' (Lt w'.heap.size) (splitC c s.data.toList) [.slice (some ⟨w.heap.size, 0, none⟩) (splitC c s.data.toList).length (splitC c s.data.toList).length] := by
  obtain ⟨m, hm⟩ := hmx
  refine (Tryz.strings_Split s ⟨#[c]⟩ m w (by omega) hm (Nat.le_refl 1)).mono fun e w' ⟨he, hw⟩ => ?_
  have hl := splitB_len c s
  have hc := splitB_C c s
  have hl2 : (splitC c s.data.toList).length = Lib.countB s ⟨#[c]⟩ + 1 := by rw [← hc, List.length_map, hl]
  have hcl := splitC_len c s.data.toList
  rw [size_string] at hcl
  refine ⟨by rw [he, hl2], by rw [hw]; exact (Below.refl _ _).alloc (Nat.le_refl _) _, by rw [hw]; simp, ?_⟩
  rw [hw]
  refine sl_new (f := strC) (size := 1) (fun _ => rfl) w _ _ _ ?_ (by unfold maxLen; omega)
  rw [← hc]
  show (List.map Value.string _) = _
  generalize Lib.splitB ⟨#[c]⟩ 0 (Lib.countB s ⟨#[c]⟩) s = L
  induction L with
  | nil => rfl
  | cons x L ih => rw [List.map_cons, List.map_cons, List.flatMap_cons, ← ih]; rfl

def parseRs : List (List UInt8) → Option (List Attr)
  | [] => some []
  | p :: ps => (parseA p).bind fun a => (parseRs ps).map (a :: ·)
def parseNs : List (List UInt8) → Option Name
  | [] => some []
  | p :: ps => (parseRs (splitC 43 p)).bind fun r => (parseNs ps).map (r :: ·)
def parseF : Option Name → Int × Name
  | none => (32, [])
  | some n => if chkN n = 0 then (0, n) else (chkN n, [])
def parseP (s : List UInt8) : Int × Name := if s = [] then (0, []) else parseF (parseNs (splitC 44 s))
theorem parseA_small {s : List UInt8} {a : Attr} (h : parseA s = some a) (hs : s.length ≤ 100000) : SmallA a := by
  obtain ⟨h1, h2⟩ := cut_len s
  unfold parseA at h
  split at h
  · cases h
  · obtain ⟨v, hv, h3⟩ := Option.bind_eq_some_iff.1 h
    split at h3
    · cases h3
      refine ⟨shortL_len shortTab _ (by decide) (by omega), ?_⟩
      have := unesc_len hv
      show v.length ≤ 100000
      omega
    · cases h3
theorem chkN_fits (n : Name) : 0 ≤ chkN n ∧ chkN n ≤ 14 := by
  have hA : ∀ (r pre : List Attr), 0 ≤ chkA pre r ∧ chkA pre r ≤ 14 := by
    intro r
    induction r with
    | nil => intro pre; simp [chkA]
    | cons a r ih =>
      intro pre
      unfold chkA
      split
      · omega
      · split
        · omega
        · split
          · omega
          · split
            · omega
            · exact ih _
  have hR : ∀ r : List Attr, 0 ≤ chkR r ∧ chkR r ≤ 14 := by
    intro r
    unfold chkR
    split
    · omega
    · split
      · omega
      · exact hA r []
  have hN : ∀ n : Name, 0 ≤ chkRs n ∧ chkRs n ≤ 14 := by
    intro n
    induction n with
    | nil => simp [chkRs]
    | cons r n ih =>
      unfold chkRs
      split
      · exact ih
      · exact hR r
  unfold chkN
  split
  · omega
  · exact hN n
def ParsePost (w : World) (p : Int × Name) (e : Ending) (w' : World) : Prop :=
  ∃ v, e = .returned (.tuple #[.agg #[v], .int .i64 p.1]) ∧ Sl RRdn 1 w' (Lt w'.heap.size) p.2 [v] ∧ Below w.heap.size w w' ∧ SmallN p.2

end Go.Proofs.YtodapmkdmkhhfaaGreatDoor
