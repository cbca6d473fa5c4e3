/- Names: how they lie in memory, and the definitions: Check, Match, Within; plain laws. -/
import Derived.Test.YtbafpgdmnkkclaaGreatDoorTxt3
import Derived.Test.YtbafpgdmnkkclaaGreatDoorOidH
namespace Go.Proofs.YtbafpgdmnkkclaaGreatDoor
open Go.RowKit

/-- an attribute: type, kind, value -/
abbrev Attr := List UInt8 × Int × List UInt8
abbrev Name := List (List Attr)
def attC (a : Attr) : List Value := [.string ⟨a.1.toArray⟩, .int .i64 a.2.1, .string ⟨a.2.2.toArray⟩]
abbrev RAttr : Rep Attr := Pu attC
theorem RAttr.ok : RepOk RAttr 3 := Pu.ok (fun _ => rfl) (fun x u hu => by
  simp only [attC, List.mem_cons, List.not_mem_nil, or_false] at hu
  rcases hu with rfl | rfl | rfl <;> rfl)
abbrev RRdn : Rep (List Attr) := Sl RAttr 3
theorem RRdn.ok : RepOk RRdn 1 := Sl.ok RAttr.ok
abbrev RName : Rep Name := Sl RRdn 1
theorem RName.ok : RepOk RName 1 := Sl.ok RRdn.ok

/-- the texts of a name are no longer than any text of a program -/
def SmallA (a : Attr) : Prop := a.1.length ≤ 131072 ∧ a.2.2.length ≤ 131072
def SmallR (r : List Attr) : Prop := ∀ a ∈ r, SmallA a
def SmallN (n : Name) : Prop := ∀ r ∈ n, SmallR r

/-- an attribute of a slice of attributes -/
theorem Sl.attAt {w : World} {S : Nat → Prop} {A : Option Addr} {n c : Nat} {l : List Attr} (h : Sl RAttr 3 w S l [.slice A n c]) {i : Nat} (hi : i < l.length) :
    ∃ b off, A = some ⟨b, off, none⟩ ∧ S b ∧ w.cell? ⟨b, off + i * 3, none⟩ = some (.string ⟨l[i].1.toArray⟩) ∧ w.cell? ⟨b, off + (i * 3 + 1), none⟩ = some (.int .i64 l[i].2.1) ∧ w.cell? ⟨b, off + (i * 3 + 2), none⟩ = some (.string ⟨l[i].2.2.toArray⟩) := by
  obtain ⟨b, off, xs, hA, hb, hr, hh⟩ := h.at_ hi
  have hr' : xs = attC l[i] := hr
  subst hr'
  exact ⟨b, off, hA, hb, hh 0 _ rfl, hh 1 _ rfl, hh 2 _ rfl⟩
/-- a relative name of a slice of them -/
theorem Sl.rdnAt {w : World} {S : Nat → Prop} {A : Option Addr} {n c : Nat} {l : Name} (h : Sl RRdn 1 w S l [.slice A n c]) {i : Nat} (hi : i < l.length) :
    ∃ b off A' c', A = some ⟨b, off, none⟩ ∧ S b ∧ w.cell? ⟨b, off + i, none⟩ = some (.slice A' l[i].length c') ∧ Sl RAttr 3 w S l[i] [.slice A' l[i].length c'] := by
  obtain ⟨b, off, xs, hA, hb, hr, hh⟩ := h.at_ hi
  have hr2 := hr
  obtain ⟨A', c', e, _⟩ := hr2
  subst e
  exact ⟨b, off, A', c', hA, hb, by simpa using hh 0 _ rfl, hr⟩

/-! ### Check -/
def chkA : List Attr → List Attr → Int
  | _, [] => 0
  | pre, a :: r => if validB a.1 = false then 11 else if a.2.2 = [] ∨ validT a.2.1 a.2.2 = false then 13 else if 64 < a.2.2.length then 2 else if pre.any (fun b => b.1 == a.1) then 10 else chkA (pre ++ [a]) r
def chkR (r : List Attr) : Int := if r.length = 0 then 14 else if 4 < r.length then 2 else chkA [] r
def chkRs : Name → Int
  | [] => 0
  | r :: rs => if chkR r = 0 then chkRs rs else chkR r
def chkN (n : Name) : Int := if 8 < n.length then 2 else chkRs n

/-! ### Match, Within -/
def foldF (l : List UInt8) : List UInt8 := foldG [] false l
def sameB (a b : Attr) : Bool := a.1 == b.1 && foldF a.2.2 == foldF b.2.2
def hasA (r : List Attr) (a : Attr) : Bool := r.any fun b => sameB a b
def sameZ (a b : List Attr) (l : List (Attr × Attr)) : Bool := l.all fun p => hasA b p.1 && hasA a p.2
def sameR (a b : List Attr) : Bool := decide (a.length = b.length) && sameZ a b (a.zip b)
def withinN (n base : Name) : Bool := decide (base.length ≤ n.length) && (n.zip base).all fun p => sameR p.1 p.2
def matchN (a b : Name) : Bool := decide (a.length = b.length) && withinN a b

theorem sameB_iff (a b : Attr) : sameB a b = true ↔ a.1 = b.1 ∧ foldF a.2.2 = foldF b.2.2 := by simp [sameB]
theorem sameB_refl (a : Attr) : sameB a a = true := (sameB_iff a a).2 ⟨rfl, rfl⟩
theorem sameB_symm {a b : Attr} (h : sameB a b = true) : sameB b a = true := by
  rw [sameB_iff] at *
  exact ⟨h.1.symm, h.2.symm⟩
theorem sameB_trans {a b c : Attr} (h : sameB a b = true) (h2 : sameB b c = true) : sameB a c = true := by
  rw [sameB_iff] at *
  exact ⟨h.1.trans h2.1, h.2.trans h2.2⟩
theorem hasA_iff (r : List Attr) (a : Attr) : hasA r a = true ↔ ∃ b ∈ r, sameB a b = true := by simp [hasA]
theorem zip_fst {α β : Type} : ∀ (a : List α) (b : List β), a.length = b.length → ∀ x ∈ a, ∃ y, (x, y) ∈ a.zip b
  | [], _, _, x, hx => by cases hx
  | x :: a, [], h, _, _ => by simp at h
  | x :: a, y :: b, h, z, hz => by
    rcases List.mem_cons.1 hz with rfl | hz
    · exact ⟨y, by simp⟩
    · obtain ⟨y', hy⟩ := zip_fst a b (by simpa using h) z hz
      exact ⟨y', by simp [hy]⟩
theorem zip_snd {α β : Type} : ∀ (a : List α) (b : List β), a.length = b.length → ∀ y ∈ b, ∃ x, (x, y) ∈ a.zip b
  | _, [], _, y, hy => by cases hy
  | [], y :: b, h, _, _ => by simp at h
  | x :: a, y :: b, h, z, hz => by
    rcases List.mem_cons.1 hz with rfl | hz
    · exact ⟨x, by simp⟩
    · obtain ⟨x', hx⟩ := zip_snd a b (by simpa using h) z hz
      exact ⟨x', by simp [hx]⟩
theorem sameR_iff (a b : List Attr) : sameR a b = true ↔ a.length = b.length ∧ (∀ x ∈ a, hasA b x = true) ∧ ∀ y ∈ b, hasA a y = true := by
  unfold sameR sameZ
  rw [Bool.and_eq_true, decide_eq_true_eq, List.all_eq_true]
  constructor
  · rintro ⟨hl, h⟩
    refine ⟨hl, fun x hx => ?_, fun y hy => ?_⟩
    · obtain ⟨y, hy⟩ := zip_fst a b hl x hx
      have := h _ hy
      simp only [Bool.and_eq_true] at this
      exact this.1
    · obtain ⟨x, hx⟩ := zip_snd a b hl y hy
      have := h _ hx
      simp only [Bool.and_eq_true] at this
      exact this.2
  · rintro ⟨hl, h1, h2⟩
    refine ⟨hl, fun p hp => ?_⟩
    have := List.of_mem_zip hp
    simp only [Bool.and_eq_true]
    exact ⟨h1 _ this.1, h2 _ this.2⟩
theorem sameR_refl (a : List Attr) : sameR a a = true :=
  (sameR_iff a a).2 ⟨rfl, fun x hx => (hasA_iff _ _).2 ⟨x, hx, sameB_refl x⟩, fun x hx => (hasA_iff _ _).2 ⟨x, hx, sameB_refl x⟩⟩
theorem sameR_symm {a b : List Attr} (h : sameR a b = true) : sameR b a = true := by
  rw [sameR_iff] at *
  exact ⟨h.1.symm, h.2.2, h.2.1⟩
theorem hasA_trans {a b : List Attr} {x : Attr} (h : hasA a x = true) (h2 : ∀ y ∈ a, hasA b y = true) : hasA b x = true := by
  rw [hasA_iff] at *
  obtain ⟨y, hy, hxy⟩ := h
  obtain ⟨z, hz, hyz⟩ := (hasA_iff _ _).1 (h2 y hy)
  exact ⟨z, hz, sameB_trans hxy hyz⟩
theorem sameR_trans {a b c : List Attr} (h : sameR a b = true) (h2 : sameR b c = true) : sameR a c = true := by
  rw [sameR_iff] at *
  exact ⟨h.1.trans h2.1, fun x hx => hasA_trans (h.2.1 x hx) h2.2.1, fun y hy => hasA_trans (h2.2.2 y hy) h.2.2⟩
/-- name by name -/
def NSame : Name → Name → Prop
  | [], [] => True
  | a :: n, b :: m => sameR a b = true ∧ NSame n m
  | _, _ => False
/-- the second is, name by name, the beginning of the first -/
def NPre : Name → Name → Prop
  | _, [] => True
  | a :: n, b :: m => sameR a b = true ∧ NPre n m
  | [], _ :: _ => False
theorem withinN_iff : ∀ (n m : Name), withinN n m = true ↔ NPre n m
  | n, [] => by simp [withinN, NPre]
  | [], b :: m => by simp [withinN, NPre]
  | a :: n, b :: m => by
    have ih := withinN_iff n m
    unfold withinN at *
    simp only [List.length_cons, List.zip_cons_cons, List.all_cons, Bool.and_eq_true, decide_eq_true_eq, NPre] at *
    constructor
    · rintro ⟨h1, h2, h3⟩
      exact ⟨h2, ih.1 ⟨by omega, h3⟩⟩
    · rintro ⟨h1, h2⟩
      obtain ⟨h3, h4⟩ := ih.2 h2
      exact ⟨by omega, h1, h4⟩
theorem matchN_iff : ∀ (n m : Name), matchN n m = true ↔ NSame n m
  | [], [] => by simp [matchN, withinN, NSame]
  | [], b :: m => by simp [matchN, NSame]
  | a :: n, [] => by simp [matchN, NSame]
  | a :: n, b :: m => by
    have ih := matchN_iff n m
    unfold matchN withinN at *
    simp only [List.length_cons, List.zip_cons_cons, List.all_cons, Bool.and_eq_true, decide_eq_true_eq, NSame] at *
    constructor
    · rintro ⟨h1, h2, h3, h4⟩
      exact ⟨h3, ih.1 ⟨by omega, by omega, h4⟩⟩
    · rintro ⟨h1, h2⟩
      obtain ⟨h3, h4, h5⟩ := ih.2 h2
      exact ⟨by omega, by omega, h1, h5⟩
theorem NSame.refl : ∀ n : Name, NSame n n
  | [] => trivial
  | a :: n => ⟨sameR_refl a, NSame.refl n⟩
theorem NSame.symm : ∀ {n m : Name}, NSame n m → NSame m n
  | [], [], _ => trivial
  | _ :: _, _ :: _, h => ⟨sameR_symm h.1, NSame.symm h.2⟩
  | [], _ :: _, h => h
  | _ :: _, [], h => h
theorem NSame.len : ∀ {n m : Name}, NSame n m → n.length = m.length
  | [], [], _ => rfl
  | _ :: _, _ :: _, h => by simp [NSame.len h.2]
  | [], _ :: _, h => h.elim
  | _ :: _, [], h => h.elim
theorem NSame.pre : ∀ {n m : Name}, NSame n m → NPre n m
  | [], [], _ => trivial
  | _ :: _, _ :: _, h => ⟨h.1, NSame.pre h.2⟩
  | [], _ :: _, h => h.elim
  | _ :: _, [], h => h.elim
theorem NPre.trans : ∀ {a b c : Name}, NPre a b → NPre b c → NPre a c
  | _, _, [], _, _ => by simp [NPre]
  | _ :: _, _ :: _, _ :: _, h, h2 => ⟨sameR_trans h.1 h2.1, NPre.trans h.2 h2.2⟩
  | [], _ :: _, _ :: _, h, _ => h.elim
  | _, [], _ :: _, _, h => h.elim
theorem NPre.len : ∀ {n m : Name}, NPre n m → m.length ≤ n.length
  | _, [], _ => by simp
  | _ :: _, _ :: _, h => by have := NPre.len h.2; simp; omega
  | [], _ :: _, h => h.elim
theorem NPre.same : ∀ {n m : Name}, NPre n m → n.length = m.length → NSame n m
  | [], [], _, _ => trivial
  | _ :: _, [], _, h => by simp at h
  | _ :: _, _ :: _, h, hl => ⟨h.1, NPre.same h.2 (by simpa using hl)⟩
  | [], _ :: _, h, _ => h.elim
theorem NPre.take : ∀ (n : Name) (k : Nat), NPre n (n.take k)
  | _, 0 => by simp [NPre]
  | [], k + 1 => by simp [NPre]
  | a :: n, k + 1 => ⟨sameR_refl a, NPre.take n k⟩
theorem NPre.of_same {a b c : Name} (h : NPre a b) (h2 : NSame b c) : NPre a c := h.trans h2.pre
theorem matchN_symm (a b : Name) : matchN a b = matchN b a := by
  rw [Bool.eq_iff_iff, matchN_iff, matchN_iff]
  exact ⟨NSame.symm, NSame.symm⟩
theorem matchN_within (a b : Name) : matchN a b = (withinN a b && withinN b a) := by
  rw [Bool.eq_iff_iff, Bool.and_eq_true, matchN_iff, withinN_iff, withinN_iff]
  constructor
  · intro h; exact ⟨h.pre, h.symm.pre⟩
  · rintro ⟨h1, h2⟩
    exact h1.same (by have := h1.len; have := h2.len; omega)

/-! ### folding -/
theorem foldF_space (l : List UInt8) : foldF (32 :: l) = foldF l := by
  unfold foldF
  rw [foldG, if_pos rfl]; rfl
theorem foldG_low : ∀ (l out : List UInt8) (gap : Bool), foldG out gap (l.map low) = foldG out gap l
  | [], _, _ => rfl
  | c :: l, out, gap => by
    rw [List.map_cons, foldG, foldG]
    by_cases h : c = 32
    · rw [if_pos ((low_32 c).2 h), if_pos h, foldG_low l]
    · rw [if_neg (fun e => h ((low_32 c).1 e)), if_neg h, low_low, foldG_low l]
theorem foldF_low (l : List UInt8) : foldF (l.map low) = foldF l := foldG_low l [] false
end Go.Proofs.YtbafpgdmnkkclaaGreatDoor
