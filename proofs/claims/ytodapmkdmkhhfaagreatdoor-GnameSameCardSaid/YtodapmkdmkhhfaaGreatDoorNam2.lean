/- The functions of package dname: shorts, parseAttribute. -/
import Derived.Test.YtodapmkdmkhhfaaGreatDoorNamD
namespace Go.Proofs.YtodapmkdmkhhfaaGreatDoor
open Go.RowKit

abbrev Short := List UInt8 × List UInt8
def shortC (p : Short) : List Value := [.string ⟨p.1.toArray⟩, .string ⟨p.2.toArray⟩]
def shortTab : List Short := [([67, 78], [50, 46, 53, 46, 52, 46, 51]), ([67], [50, 46, 53, 46, 52, 46, 54]), ([76], [50, 46, 53, 46, 52, 46, 55]), ([79], [50, 46, 53, 46, 52, 46, 49, 48]), ([79, 85], [50, 46, 53, 46, 52, 46, 49, 49]), ([68, 67], [48, 46, 57, 46, 50, 51, 52, 50, 46, 49, 57, 50, 48, 48, 51, 48, 48, 46, 49, 48, 48, 46, 49, 46, 50, 53]), ([69], [49, 46, 50, 46, 56, 52, 48, 46, 49, 49, 51, 53, 52, 57, 46, 49, 46, 57, 46, 49])]
def oidDC : List UInt8 := [48, 46, 57, 46, 50, 51, 52, 50, 46, 49, 57, 50, 48, 48, 51, 48, 48, 46, 49, 48, 48, 46, 49, 46, 50, 53]
def oidE : List UInt8 := [49, 46, 50, 46, 56, 52, 48, 46, 49, 49, 51, 53, 52, 57, 46, 49, 46, 57, 46, 49]
def shortL : List Short → List UInt8 → List UInt8
  | [], id => id
  | p :: r, id => if p.1 = id then p.2 else shortL r id
theorem shortL_len : ∀ (l : List Short) (id : List UInt8), (∀ p ∈ l, p.2.length ≤ 1000) → id.length ≤ 100000 → (shortL l id).length ≤ 100000
  | [], _, _, h => h
  | p :: r, id, hp, h => by
    rw [shortL]
    split
    · have := hp p (by simp); omega
    · exact shortL_len r id (fun q hq => hp q (by simp [hq])) h
/-- a block that was made with a few elements in it, read -/
theorem sl_new {α : Type} {f : α → List Value} {size : Nat} (hf : ∀ x, (f x).length = size) (w : World) (C : Array Value) (t : TypeId) (l : List α) (hC : C.toList = l.flatMap f) (hl : l.length ≤ maxLen) :
    Sl (Pu f) size (w.alloc (.cells C t)) (Lt (w.alloc (.cells C t)).heap.size) l [.slice (some ⟨w.heap.size, 0, none⟩) l.length l.length] := by
  refine ⟨_, _, rfl, Nat.le_refl _, hl, fun _ => ⟨w.heap.size, 0, rfl, by show _ < _; simp, fun i x hx => ?_⟩⟩
  obtain ⟨cs, h1, h2⟩ := news_pu hf w (Lt (w.alloc (.cells C t)).heap.size) C t l hC i x hx
  refine ⟨cs, h1, fun j u hu => ?_⟩
  have := h2 j u hu
  rw [Addr.add_lit] at this
  exact this

theorem cut_v (s : ByteArray) (hs : s.size ≤ 1000000) (c : UInt8) (w : World) (hmx : Mx w) (a b : ByteArray) (f : Bool) (ha : a.data.toList = (Lib.cut s.data.toList [c]).1) (hb : b.data.toList = (Lib.cut s.data.toList [c]).2.1) (hf : (Lib.cut s.data.toList [c]).2.2 = f) :
    Calls Tryz.prog 77 #[.string s, .string ⟨#[c]⟩] w fun e w' => e = .returned (.tuple #[.string a, .string b, .bool f]) ∧ ∃ n, w' = w.drewN n := by
  obtain ⟨m, hm⟩ := hmx
  refine (Tryz.strings_Cut s ⟨#[c]⟩ m w (by omega) hm).mono fun e w' ⟨he, hw⟩ => ⟨?_, hw⟩
  rw [he]
  show Ending.returned (.tuple #[.string ⟨(Lib.cut s.data.toList [c]).1.toArray⟩, .string ⟨(Lib.cut s.data.toList [c]).2.1.toArray⟩, .bool (Lib.cut s.data.toList [c]).2.2]) = _
  rw [← ha, ← hb, hf]
def cutL (w : List UInt8) : List UInt8 × List UInt8 × Bool := Lib.cut w [61]
def kindA (id v : List UInt8) : Int := if id = oidDC ∨ id = oidE then 22 else if validT 19 v = true then 19 else 12
def parseA (w : List UInt8) : Option Attr :=
  if (cutL w).2.2 = false then none else
  (unesc (cutL w).2.1).bind fun v => if validB (shortL shortTab (cutL w).1) = true then some (shortL shortTab (cutL w).1, kindA (shortL shortTab (cutL w).1) v, v) else none
def noAttV : Value := .agg #[.string ⟨#[]⟩, .int .i64 0, .string ⟨#[]⟩]
def parR (o : Option Attr) : Value := match o with | none => .tuple #[noAttV, .bool false] | some a => .tuple #[attV a, .bool true]
end Go.Proofs.YtodapmkdmkhhfaaGreatDoor

/- The functions of package dname: parseAttribute. -/
namespace Go.Proofs.YtodapmkdmkhhfaaGreatDoor
open Go.RowKit

def ResAtt (g : Nat) (W : World) : Prop := W.heap[g]? = some (.cells #[.string ⟨#[]⟩, .int .i64 0, .string ⟨#[]⟩] 74 (0, 0))
theorem ResAtt.facts {g : Nat} {W : World} (h : ResAtt g W) : W.cell? ⟨g, 0, none⟩ = some (.string ⟨#[]⟩) ∧ W.cell? ⟨g, 1, none⟩ = some (.int .i64 0) ∧ W.cell? ⟨g, 2, none⟩ = some (.string ⟨#[]⟩) ∧
    W.frozen? ⟨g, 0, none⟩ = false ∧ W.frozen? ⟨g, 1, none⟩ = false ∧ W.frozen? ⟨g, 2, none⟩ = false := by
  unfold ResAtt at h
  simp [World.cell?, World.frozen?, h]
theorem ResAtt.below {g : Nat} {W W' : World} (h : ResAtt g W) (hb : Below W.heap.size W W') : ResAtt g W' := by
  have hlt : g < W.heap.size := (Array.getElem?_eq_some_iff.1 h).1
  exact (hb.block g hlt).trans h
theorem ResAtt.store {g : Nat} {W : World} (h : ResAtt g W) (a b c : Value) :
    (((W.setCell ⟨g, 0, none⟩ a).setCell ⟨g, 1, none⟩ b).setCell ⟨g, 2, none⟩ c).cell? ⟨g, 0, none⟩ = some a ∧ (((W.setCell ⟨g, 0, none⟩ a).setCell ⟨g, 1, none⟩ b).setCell ⟨g, 2, none⟩ c).cell? ⟨g, 1, none⟩ = some b ∧
    (((W.setCell ⟨g, 0, none⟩ a).setCell ⟨g, 1, none⟩ b).setCell ⟨g, 2, none⟩ c).cell? ⟨g, 2, none⟩ = some c := by
  unfold ResAtt at h
  simp [World.cell?, World.setCell, Array.getElem?_modify, h]
theorem below_store3 {B g : Nat} {w W : World} (h : Below B w W) (hg : B ≤ g) (a b c : Value) : Below B w (((W.setCell ⟨g, 0, none⟩ a).setCell ⟨g, 1, none⟩ b).setCell ⟨g, 2, none⟩ c) :=
  ((h.setCell (p := ⟨g, 0, none⟩) hg a).setCell (p := ⟨g, 1, none⟩) hg b).setCell (p := ⟨g, 2, none⟩) hg c
theorem cut_len (s : List UInt8) : (cutL s).1.length ≤ s.length ∧ (cutL s).2.1.length ≤ s.length := by
  unfold cutL Lib.cut
  split
  · simp; omega
  · simp
theorem unesc_len {l o : List UInt8} (h : unesc l = some o) : o.length ≤ l.length := by
  have h1 := (unesc_iff l o).1 h
  have h2 := esc_len o
  rw [h1] at h2
  exact h2



end Go.Proofs.YtodapmkdmkhhfaaGreatDoor

/- The functions of package dname: Parse. -/
namespace Go.Proofs.YtodapmkdmkhhfaaGreatDoor
open Go.RowKit

theorem info_rdn : (Tryz.prog.info? 72).map (fun i => (i.zero, i.size, i.bytes)) = some (some (.slice none 0 0), 1, 24) := by kernel_rfl
theorem info_att : (Tryz.prog.info? 74).map (fun i => (i.zero, i.size, i.bytes)) = some (some (.agg #[.string ⟨#[]⟩, .int .i64 0, .string ⟨#[]⟩]), 3, 40) := by kernel_rfl
/-- a variable that holds a name -/
def NB (g : Nat) (v : Value) (W : World) : Prop := W.heap[g]? = some (.cells #[v] 30 (0, 0))
theorem NB.facts {g : Nat} {v : Value} {W : World} (h : NB g v W) : W.cell? ⟨g, 0, none⟩ = some v ∧ W.frozen? ⟨g, 0, none⟩ = false := by
  unfold NB at h
  simp [World.cell?, World.frozen?, h]
theorem NB.lt {g : Nat} {v : Value} {W : World} (h : NB g v W) : g < W.heap.size := (Array.getElem?_eq_some_iff.1 h).1
theorem NB.below {g : Nat} {v : Value} {W W' : World} (h : NB g v W) (hb : Below W.heap.size W W') : NB g v W' := (hb.block g h.lt).trans h
theorem NB.other {g g' j : Nat} {v u : Value} {W : World} (h : NB g v W) (hne : g ≠ g') : NB g v (W.setCell ⟨g', j, none⟩ u) := (Below.heap_setCell W ⟨g', j, none⟩ u g hne).trans h
theorem NB.store {g : Nat} {v : Value} {W : World} (h : NB g v W) (u : Value) : NB g u (W.setCell ⟨g, 0, none⟩ u) := by
  unfold NB at *
  simp [World.setCell, Array.getElem?_modify, h]
theorem Own.other {α : Type} {R : Rep α} {size : Nat} {e : TypeId} {w : World} {base : Nat} {S : Nat → Prop} {v : Value} {l : List α} (hR : RepOk R size) (h : Own R size e w base S v l) (hS : ∀ k, S k → base ≤ k) {g j : Nat} (hg : g < base) (u : Value) :
    Own R size e (w.setCell ⟨g, j, none⟩ u) base S v l :=
  Own.keep hR h (fun k hk => Below.heap_setCell w _ u k (by have := (h.lt k hk).1; show k ≠ g; omega)) (fun k hk => Below.heap_setCell w _ u k (by have := hS k hk; show k ≠ g; omega)) (fun _ hk => hk) (by obtain ⟨_, _, h2, _⟩ := h; exact h2)

theorem Ex.then_base {d : Nat} {a b c : World} (h : Ex d a b) (k : Below a.heap.size b c) : Ex d a c :=
  ⟨k.os.trans h.os, k.tape.trans h.tape, k.output.trans h.output, Nat.le_trans h.size k.size, fun j hj hne => (k.block j hj).trans (h.block j hj hne)⟩
theorem news_one {α : Type} {R : Rep α} {w : World} {S : Nat → Prop} {x : Value} {y : α} {t : TypeId} (h : R (w.alloc (.cells #[x] t)) S y [x]) :
    ∀ i z, [y][i]? = some z → ∃ cs, R (w.alloc (.cells #[x] t)) S z cs ∧ ∀ j u, cs[j]? = some u → (w.alloc (.cells #[x] t)).cell? ((⟨w.heap.size, 0, none⟩ : Addr).add (i * 1 + j)) = some u := by
  intro i z hz
  match i, hz with
  | 0, hz =>
    simp at hz; subst hz
    refine ⟨[x], h, fun j u hu => ?_⟩
    match j, hu with
    | 0, hu =>
      simp at hu; subst hu
      rw [Addr.add_lit, World.cell?_alloc_new]; rfl
theorem news_att (w : World) (S : Nat → Prop) (t : TypeId) (a : Attr) :
    ∀ i y, [a][i]? = some y → ∃ cs, RAttr (w.alloc (.cells #[.string ⟨a.1.toArray⟩, .int .i64 a.2.1, .string ⟨a.2.2.toArray⟩] t)) S y cs ∧ ∀ j u, cs[j]? = some u → (w.alloc (.cells #[.string ⟨a.1.toArray⟩, .int .i64 a.2.1, .string ⟨a.2.2.toArray⟩] t)).cell? ((⟨w.heap.size, 0, none⟩ : Addr).add (i * 3 + j)) = some u :=
  news_pu (f := attC) (size := 3) (fun _ => rfl) w S #[.string ⟨a.1.toArray⟩, .int .i64 a.2.1, .string ⟨a.2.2.toArray⟩] t [a] rfl
theorem news_att2 (w : World) (ob : Obj) (S : Nat → Prop) (t : TypeId) (a : Attr) :
    ∀ i y, [a][i]? = some y → ∃ cs, RAttr ((w.alloc ob).alloc (.cells #[.string ⟨a.1.toArray⟩, .int .i64 a.2.1, .string ⟨a.2.2.toArray⟩] t)) S y cs ∧ ∀ j u, cs[j]? = some u → ((w.alloc ob).alloc (.cells #[.string ⟨a.1.toArray⟩, .int .i64 a.2.1, .string ⟨a.2.2.toArray⟩] t)).cell? ((⟨w.heap.size + 1, 0, none⟩ : Addr).add (i * 3 + j)) = some u := by
  have := news_att (w.alloc ob) S t a
  rw [World.size_alloc] at this
  exact this
/-- strings.Split at one byte: the pieces -/
theorem split_v (s : ByteArray) (hs : s.size ≤ 1000000) (c : UInt8) (w : World) (hmx : Mx w) :
    Calls Tryz.prog 110 #[.string s, .string ⟨#[c]⟩] w fun e w' => e = .returned (.slice (some ⟨w.heap.size, 0, none⟩) (splitC c s.data.toList).length (splitC c s.data.toList).length) ∧ Below w.heap.size w w' ∧ w'.heap.size = w.heap.size + 1 ∧
      Sl RStr 1 w' (Lt w'.heap.size) (splitC c s.data.toList) [.slice (some ⟨w.heap.size, 0, none⟩) (splitC c s.data.toList).length (splitC c s.data.toList).length] := by
  obtain ⟨m, hm⟩ := hmx
  refine (Tryz.strings_Split s ⟨#[c]⟩ m w (by omega) hm (Nat.le_refl 1)).mono fun e w' ⟨he, hw⟩ => ?_
  have hl := splitB_len c s
  have hc := splitB_C c s
  have hl2 : (splitC c s.data.toList).length = Lib.countB s ⟨#[c]⟩ + 1 := by rw [← hc, List.length_map, hl]
  have hcl := splitC_len c s.data.toList
  rw [size_string] at hcl
  refine ⟨by rw [he, hl2], by rw [hw]; exact (Below.refl _ _).alloc (Nat.le_refl _) _, by rw [hw]; simp, ?_⟩
  rw [hw]
  refine sl_new (f := strC) (size := 1) (fun _ => rfl) w _ _ _ ?_ (by unfold maxLen; omega)
  rw [← hc]
  show (List.map Value.string _) = _
  generalize Lib.splitB ⟨#[c]⟩ 0 (Lib.countB s ⟨#[c]⟩) s = L
  induction L with
  | nil => rfl
  | cons x L ih => rw [List.map_cons, List.map_cons, List.flatMap_cons, ← ih]; rfl

def parseRs : List (List UInt8) → Option (List Attr)
  | [] => some []
  | p :: ps => (parseA p).bind fun a => (parseRs ps).map (a :: ·)
def parseNs : List (List UInt8) → Option Name
  | [] => some []
  | p :: ps => (parseRs (splitC 43 p)).bind fun r => (parseNs ps).map (r :: ·)
def parseF : Option Name → Int × Name
  | none => (32, [])
  | some n => if chkN n = 0 then (0, n) else (chkN n, [])
def parseP (s : List UInt8) : Int × Name := if s = [] then (0, []) else parseF (parseNs (splitC 44 s))
theorem parseA_small {s : List UInt8} {a : Attr} (h : parseA s = some a) (hs : s.length ≤ 100000) : SmallA a := by
  obtain ⟨h1, h2⟩ := cut_len s
  unfold parseA at h
  split at h
  · cases h
  · obtain ⟨v, hv, h3⟩ := Option.bind_eq_some_iff.1 h
    split at h3
    · cases h3
      refine ⟨shortL_len shortTab _ (by decide) (by omega), ?_⟩
      have := unesc_len hv
      show v.length ≤ 100000
      omega
    · cases h3
theorem chkN_fits (n : Name) : 0 ≤ chkN n ∧ chkN n ≤ 14 := by
  have hA : ∀ (r pre : List Attr), 0 ≤ chkA pre r ∧ chkA pre r ≤ 14 := by
    intro r
    induction r with
    | nil => intro pre; simp [chkA]
    | cons a r ih =>
      intro pre
      unfold chkA
      split
      · omega
      · split
        · omega
        · split
          · omega
          · split
            · omega
            · exact ih _
  have hR : ∀ r : List Attr, 0 ≤ chkR r ∧ chkR r ≤ 14 := by
    intro r
    unfold chkR
    split
    · omega
    · split
      · omega
      · exact hA r []
  have hN : ∀ n : Name, 0 ≤ chkRs n ∧ chkRs n ≤ 14 := by
    intro n
    induction n with
    | nil => simp [chkRs]
    | cons r n ih =>
      unfold chkRs
      split
      · exact ih
      · exact hR r
  unfold chkN
  split
  · omega
  · exact hN n
def ParsePost (w : World) (p : Int × Name) (e : Ending) (w' : World) : Prop :=
  ∃ v, e = .returned (.tuple #[.agg #[v], .int .i64 p.1]) ∧ Sl RRdn 1 w' (Lt w'.heap.size) p.2 [v] ∧ Below w.heap.size w w' ∧ SmallN p.2

end Go.Proofs.YtodapmkdmkhhfaaGreatDoor
