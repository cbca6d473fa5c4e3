/- Name constraints, plain: what Check asks, what Encode writes, what Decode reads. -/
import Derived.Test.YtahamclodagihaaGreatDoorTGGlA
import Derived.Test.YtahamclodagihaaGreatDoorTGnJ
namespace Go.Proofs.YtahamclodagihaaGreatDoor
open Go.RowKit
def chkS (s : Sub) : Int := if s.1.length = 0 ∧ s.2.length = 0 then 7 else if 16 < s.1.length ∨ 16 < s.2.length then 2 else chkGs true (s.1 ++ s.2)
def treeB (g : Gen) : List UInt8 := wrapW 48 (encGB g)
def partO (t : Nat) (l : List Gen) : Option (List UInt8) := if l.length = 0 then some [] else wrapO t (l.flatMap treeB)
def encSO : Option (List UInt8) → Option (List UInt8) → Option (List UInt8)
 | some a, some b => wrapO 48 (a ++ b)
 | _, _ => none
def limR : Option (List UInt8) → List UInt8 × Int
 | some b => (b, 0)
 | none => ([], 2)
def encS (s : Sub) : List UInt8 × Int := if chkS s = 0 then limR (encSO (partO 160 s.1) (partO 161 s.2)) else ([], chkS s)
def decTX (r : List Elt) : Except Int Gen → Except Int Gen
 | .error k => .error k
 | .ok g => if r ≠ [] then .error 4 else .ok g
def decTL : List Elt → Except Int Gen
 | [] => .error 3
 | x :: r => decTX r (decGE true x)
def decTG : Except Int (List Elt) → Except Int Gen
 | .error k => .error k
 | .ok l => decTL l
def decT (e : Elt) : Except Int Gen := decTG (openF e.1 48 e.2.1)
def decPL : Except Int (List Elt) → Except Int (List Gen)
 | .error k => .error k
 | .ok l => if l.length = 0 then .error 7 else mapE decT l
def decP2 (b : List UInt8) : Except Int (List Gen) := decPL (listF b)
def partR (r : List Elt) : Except Int (List Gen) → Except Int (List Gen × List Elt)
 | .error k => .error k
 | .ok l => .ok (l, r)
def partD (t : Nat) : List Elt → Except Int (List Gen × List Elt)
 | [] => .ok ([], [])
 | x :: r => if x.1 = t then partR r (decP2 x.2.1) else .ok ([], x :: r)
def decSC (s : Sub) : Except Int Sub := if chkS s = 0 then .ok s else .error (chkS s)
def decSX (p : List Gen) : Except Int (List Gen × List Elt) → Except Int Sub
 | .error k => .error k
 | .ok q => if q.2 ≠ [] then .error 4 else decSC (p, q.1)
def decSP : Except Int (List Gen × List Elt) → Except Int Sub
 | .error k => .error k
 | .ok q => decSX q.1 (partD 161 q.2)
def decSG : Except Int (List Elt) → Except Int Sub
 | .error k => .error k
 | .ok l => decSP (partD 160 l)
def decSO : Except Int Elt → Except Int Sub
 | .error k => .error k
 | .ok e => decSG (openF e.1 48 e.2.1)
def decS (b : List UInt8) : Except Int Sub := decSO (oneF b)
theorem decGE_err0 {c : Bool} {e : Elt} : decGE c e ≠ .error 0 := decG_err0
theorem decT_err0 (e : Elt) : decT e ≠ .error 0 := fun h => by
  unfold decT at h
  cases hL : openF e.1 48 e.2.1 with
  | error k =>
    rw [hL] at h
    simp only [decTG, Except.error.injEq] at h
    subst h
    exact openF_err0 hL
  | ok l =>
    rw [hL, decTG] at h
    match l, h with
    | [], h => cases h
    | x :: r, h =>
      rw [decTL] at h
      cases hd : decGE true x with
      | error k =>
        rw [hd] at h
        simp only [decTX, Except.error.injEq] at h
        subst h
        exact decGE_err0 hd
      | ok g =>
        rw [hd, decTX] at h
        split at h
        · cases h
        · cases h
theorem decP2_err0 (b : List UInt8) : decP2 b ≠ .error 0 := fun h => by
  unfold decP2 at h
  cases hL : listF b with
  | error k =>
    rw [hL] at h
    simp only [decPL, Except.error.injEq] at h
    subst h
    exact list_err0 _ _ (Nat.le_refl _) hL
  | ok l =>
    rw [hL, decPL] at h
    split at h
    · cases h
    · exact mapE_err0 decT_err0 l h
theorem treeB_len (g : Gen) : (treeB g).length ≤ (encGB g).length + 5 := by
 rw [treeB, wrapW_len]
 have := lenB_le (encGB g).length
 omega
theorem decT_enc {g : Gen} (h : chkG g true = 0) (hs : g.2.1.length ≤ 100000) :
  ∃ e : Elt, (∀ r, readF (treeB g ++ r) = .ok (e, r)) ∧ decT e = .ok (sortG g) ∧ sameGB g (sortG g) = true := by
 obtain ⟨e, o1, o2, o3, o4, o5, o6⟩ := decGE_enc h (by omega)
 have hl := encGB_len h hs
 refine ⟨(48, encGB g, wrapW 48 (encGB g)), fun r => read_wrap 48 (by decide) (by decide) _ _ (by omega), ?_, ?_⟩
 ·have h2 := o2 []
  rw [List.append_nil] at h2
  rw [decT]
  simp only
  rw [openF, if_neg (by simp), listF_cons h2, listF_nil]
  simp only
  rw [decTG, decTL, o3, decTX, if_neg (by simp)]
  rfl
 ·rw [sameGB]
  simp only [sortG, beq_self_eq_true, Bool.true_and]
  exact o4
theorem list_encT : ∀ l : List Gen, (∀ g ∈ l, chkG g true = 0) → (∀ g ∈ l, g.2.1.length ≤ 100000) →
    ∃ es : List Elt, listF (l.flatMap treeB) = .ok es ∧ es.length = l.length ∧ mapE decT es = .ok (l.map sortG) ∧ sameGsB l (l.map sortG) = true
  | [], _, _ => ⟨[], rfl, rfl, rfl, rfl⟩
  | g :: l, h, hs => by
    obtain ⟨es, e1, e2, e3, e4⟩ := list_encT l (fun x hx => h x (by simp [hx])) (fun x hx => hs x (by simp [hx]))
    obtain ⟨e, o2, o3, o4⟩ := decT_enc (h g (by simp)) (hs g (by simp))
    refine ⟨e :: es, ?_, by simp [e2], ?_, ?_⟩
    · rw [List.flatMap_cons, listF_cons (o2 _), e1]
    · rw [mapE, o3, e3]
      rfl
    · rw [List.map_cons, sameGsB, e4, Bool.and_true, o4]
theorem chkG_sort {g : Gen} {c : Bool} (h : chkG g c = 0) : chkG (sortG g) c = 0 := by
 obtain ⟨k, t, n⟩ := g
 by_cases h4 : k = 4
 ·subst h4
  rw [chkG] at h
  simp only [if_true] at h
  by_cases ht : t = []
  ·rw [if_pos ht] at h
   simp only [sortG, if_true]
   rw [chkG]
   simp only [if_true]
   rw [if_pos ht]
   exact chkN_sort h
  ·rw [if_neg ht] at h; cases h
 ·simp only [sortG, if_neg h4]
  exact h
theorem chkS_sort {p x : List Gen} (h : chkS (p, x) = 0) : chkS (p.map sortG, x.map sortG) = 0 := by
 unfold chkS at *
 simp only [List.length_map] at *
 split at h
 ·cases h
 ·rename_i h1
  split at h
  ·cases h
  ·rename_i h2
   rw [if_neg h1, if_neg h2, ← List.map_append]
   rw [chkGs_iff] at *
   intro g hg
   obtain ⟨y, hy, rfl⟩ := List.mem_map.1 hg
   exact chkG_sort (h y hy)
def FitS (s : Sub) : Prop := (s.1.flatMap treeB).length ≤ 65000 ∧ (s.2.flatMap treeB).length ≤ 65000
theorem partO_fit {t : Nat} {l : List Gen} (h : (l.flatMap treeB).length ≤ 65000) : partO t l = some (if l.length = 0 then [] else wrapW t (l.flatMap treeB)) := by
 unfold partO
 split
 ·rfl
 ·exact wrapO_of (by omega)
theorem partD_enc (t : Nat) (ht : t < 256) (ht31 : t % 32 ≠ 31) (l : List Gen) (h : ∀ g ∈ l, chkG g true = 0) (hs : ∀ g ∈ l, g.2.1.length ≤ 100000) (hf : (l.flatMap treeB).length ≤ 65000) (r : List UInt8) (es : List Elt) (hr : listF r = .ok es) (hno : ∀ e, es[0]? = some e → e.1 ≠ t) :
    ∃ fs, listF ((if l.length = 0 then [] else wrapW t (l.flatMap treeB)) ++ r) = .ok fs ∧ partD t fs = .ok (l.map sortG, es) ∧ ∀ e, fs[0]? = some e → e.1 = t ∨ es[0]? = some e := by
  by_cases h0 : l.length = 0
  · have hl : l = [] := List.eq_nil_of_length_eq_zero h0
    subst hl
    refine ⟨es, by simpa using hr, ?_, fun e he => .inr he⟩
    match es, hno with
    | [], _ => rfl
    | x :: q, hno =>
      rw [partD, if_neg (hno x rfl)]
      rfl
  · obtain ⟨gs, g1, g2, g3, -⟩ := list_encT l h hs
    rw [if_neg h0]
    refine ⟨(t, l.flatMap treeB, wrapW t (l.flatMap treeB)) :: es, ?_, ?_, fun e he => .inl ?_⟩
    · rw [listF_cons (read_wrap t ht ht31 _ _ (by omega)), hr]
    · rw [partD, if_pos rfl, decP2, g1, decPL, if_neg (by omega), g3]
      rfl
    · have he' : (t, l.flatMap treeB, wrapW t (l.flatMap treeB)) = e := Option.some.inj he
      rw [← he']
theorem decS_enc {p x : List Gen} (h : chkS (p, x) = 0) (hsp : ∀ g ∈ p ++ x, g.2.1.length ≤ 100000) (hf : FitS (p, x)) : ∃ b, encS (p, x) = (b, 0) ∧ decS b = .ok (p.map sortG, x.map sortG) := by
 have hc := h
 have hck : ∀ g ∈ p ++ x, chkG g true = 0 := by
  unfold chkS at h
  split at h
  ·cases h
  ·split at h
   ·cases h
   ·exact (chkGs_iff _ _).1 h
 obtain ⟨f1, f2⟩ := hf
 simp only at f1 f2
 obtain ⟨fx, x1, x2, x3⟩ := partD_enc 161 (by decide) (by decide) x (fun g hg => hck g (by simp [hg])) (fun g hg => hsp g (by simp [hg])) f2 [] [] listF_nil (fun e he => by cases he)
 rw [List.append_nil] at x1
 obtain ⟨fp, p1, p2, -⟩ := partD_enc 160 (by decide) (by decide) p (fun g hg => hck g (by simp [hg])) (fun g hg => hsp g (by simp [hg])) f1 _ fx x1 (fun e he => by
  rcases x3 e he with h1 | h1
  ·omega
  ·cases h1)
 have hbnd : ∀ (t : Nat) (l : List Gen), (l.flatMap treeB).length ≤ 65000 → (if l.length = 0 then [] else wrapW t (l.flatMap treeB)).length ≤ 65005 := fun t l hl => by
  split
  ·simp
  ·rw [wrapW_len]
   have := lenB_le (l.flatMap treeB).length
   omega
 have hb1 := hbnd 160 p f1
 have hb2 := hbnd 161 x f2
 refine ⟨wrapW 48 ((if p.length = 0 then [] else wrapW 160 (p.flatMap treeB)) ++ (if x.length = 0 then [] else wrapW 161 (x.flatMap treeB))), ?_, ?_⟩
 ·rw [encS, if_pos hc]
  simp only
  rw [partO_fit f1, partO_fit f2, encSO, wrapO_of (by rw [List.length_append]; omega), limR]
 ·rw [decS, one_wrap 48 (by decide) (by decide) _ (by rw [List.length_append]; omega), decSO]
  simp only
  rw [openF, if_neg (by simp), p1, decSG, p2, decSP]
  simp only
  rw [x2, decSX, if_neg (by simp), decSC, if_pos (chkS_sort hc)]
end Go.Proofs.YtahamclodagihaaGreatDoor
