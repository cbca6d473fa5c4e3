/- Keys of names, plain: matching names, and they alone, have the same key. -/
import Derived.Test.YtahamclodagihaaGreatDoorKGNenP
import Derived.Test.YtahamclodagihaaGreatDoorKGOidL
namespace Go.Proofs.YtahamclodagihaaGreatDoor
open Go.RowKit
def jInt (n : Nat) : List UInt8 := decL n ++ [59]
def jStr (s : List UInt8) : List UInt8 := decL s.length ++ (58 :: s)
def keyA (a : Attr) : List UInt8 := jStr a.1 ++ jStr (foldF a.2.2)
def keyR (r : List Attr) : List (List UInt8) := ordF (r.map keyA)
def keyP (r : List Attr) : List UInt8 := jInt r.length ++ (keyR r).flatMap jStr
def keyN (n : Name) : List UInt8 := jInt n.length ++ n.flatMap keyP
theorem dig_cut (c : UInt8) (hc : isDig c = false) : ∀ (p q x y : List UInt8), p.all isDig = true → q.all isDig = true → p ++ c :: x = q ++ c :: y → p = q ∧ x = y
  | [], [], x, y, _, _, h => ⟨rfl, by simpa using h⟩
  | [], b :: q, x, y, _, hq, h => by
    simp only [List.nil_append, List.cons_append, List.cons.injEq] at h
    rw [List.all_cons, Bool.and_eq_true, ← h.1, hc] at hq
    cases hq.1
  | a :: p, [], x, y, hp, _, h => by
    simp only [List.nil_append, List.cons_append, List.cons.injEq] at h
    rw [List.all_cons, Bool.and_eq_true, h.1, hc] at hp
    cases hp.1
  | a :: p, b :: q, x, y, hp, hq, h => by
    rw [List.all_cons, Bool.and_eq_true] at hp hq
    simp only [List.cons_append, List.cons.injEq] at h
    obtain ⟨h1, h2⟩ := dig_cut c hc p q x y hp.2 hq.2 h.2
    exact ⟨by rw [h.1, h1], h2⟩
theorem jInt_inj {a b : Nat} {x y : List UInt8} (h : jInt a ++ x = jInt b ++ y) : a = b ∧ x = y := by
 unfold jInt at h
 rw [List.append_assoc, List.append_assoc] at h
 obtain ⟨h1, h2⟩ := dig_cut 59 (by decide) _ _ _ _ (decL_all a) (decL_all b) h
 exact ⟨decL_inj h1, h2⟩
theorem app_len {x y u v : List UInt8} (h : x ++ u = y ++ v) (hl : x.length = y.length) : x = y ∧ u = v := List.append_inj h hl
theorem jStr_inj {a b x y : List UInt8} (h : jStr a ++ x = jStr b ++ y) : a = b ∧ x = y := by
 unfold jStr at h
 rw [List.append_assoc, List.append_assoc, List.cons_append, List.cons_append] at h
 obtain ⟨h1, h2⟩ := dig_cut 58 (by decide) _ _ _ _ (decL_all a.length) (decL_all b.length) h
 exact app_len h2 (decL_inj h1)
theorem keyA_inj {a b : Attr} (h : keyA a = keyA b) : sameB a b = true := by
 unfold keyA at h
 obtain ⟨h1, h2⟩ := jStr_inj h
 have h3 : jStr (foldF a.2.2) ++ [] = jStr (foldF b.2.2) ++ [] := by rw [h2]
 exact (sameB_iff a b).2 ⟨h1, (jStr_inj h3).1⟩
theorem keyA_of {a b : Attr} (h : sameB a b = true) : keyA a = keyA b := by
 obtain ⟨h1, h2⟩ := (sameB_iff a b).1 h
 unfold keyA
 rw [h1, h2]
theorem strs_inj : ∀ {l m : List (List UInt8)} {x y : List UInt8}, l.length = m.length → l.flatMap jStr ++ x = m.flatMap jStr ++ y → l = m ∧ x = y
  | [], [], x, y, _, h => ⟨rfl, by simpa using h⟩
  | a :: l, b :: m, x, y, hl, h => by
    rw [List.flatMap_cons, List.flatMap_cons, List.append_assoc, List.append_assoc] at h
    obtain ⟨h1, h2⟩ := jStr_inj h
    obtain ⟨h3, h4⟩ := strs_inj (by simpa using hl) h2
    exact ⟨by rw [h1, h3], h4⟩
  | [], _ :: _, _, _, hl, _ => by simp at hl
  | _ :: _, [], _, _, hl, _ => by simp at hl
theorem keyR_len (r : List Attr) : (keyR r).length = r.length := by rw [keyR, (ordF_perm _).length_eq, List.length_map]
theorem keyP_inj {r s : List Attr} {x y : List UInt8} (h : keyP r ++ x = keyP s ++ y) : r.length = s.length ∧ keyR r = keyR s ∧ x = y := by
 unfold keyP at h
 rw [List.append_assoc, List.append_assoc] at h
 obtain ⟨h1, h2⟩ := jInt_inj h
 obtain ⟨h3, h4⟩ := strs_inj (by rw [keyR_len, keyR_len, h1]) h2
 exact ⟨h1, h3, h4⟩
theorem keyPs_inj : ∀ {n m : Name}, n.length = m.length → n.flatMap keyP = m.flatMap keyP → ∀ p ∈ n.zip m, p.1.length = p.2.length ∧ keyR p.1 = keyR p.2
  | [], [], _, _, p, hp => by cases hp
  | r :: n, s :: m, hl, h, p, hp => by
    rw [List.flatMap_cons, List.flatMap_cons] at h
    obtain ⟨h1, h2, h3⟩ := keyP_inj h
    rw [List.zip_cons_cons] at hp
    rcases List.mem_cons.1 hp with rfl | hp
    · exact ⟨h1, h2⟩
    · exact keyPs_inj (by simpa using hl) h3 p hp
  | [], _ :: _, hl, _, _, _ => by simp at hl
  | _ :: _, [], hl, _, _, _ => by simp at hl
theorem keyR_same {r s : List Attr} (hl : r.length = s.length) (h : keyR r = keyR s) : sameR r s = true := by
 have hp : (r.map keyA).Perm (s.map keyA) := by
  have h1 := ordF_perm (r.map keyA)
  have h2 := ordF_perm (s.map keyA)
  unfold keyR at h
  rw [h] at h1
  exact h1.symm.trans h2
 refine (sameR_iff r s).2 ⟨hl, fun x hx => ?_, fun y hy => ?_⟩
 ·have h1 : keyA x ∈ s.map keyA := hp.mem_iff.1 (List.mem_map_of_mem hx)
  obtain ⟨y, hy, e⟩ := List.mem_map.1 h1
  exact (hasA_iff _ _).2 ⟨y, hy, keyA_inj e.symm⟩
 ·have h1 : keyA y ∈ r.map keyA := hp.mem_iff.2 (List.mem_map_of_mem hy)
  obtain ⟨x, hx, e⟩ := List.mem_map.1 h1
  exact (hasA_iff _ _).2 ⟨x, hx, keyA_inj e.symm⟩
theorem key_nodup : ∀ {r : List Attr}, r.Pairwise (fun a b => a.1 ≠ b.1) → (r.map keyA).Nodup
  | [], _ => by simp
  | a :: r, h => by
    rw [List.pairwise_cons] at h
    rw [List.map_cons, List.nodup_cons]
    refine ⟨fun hm => ?_, key_nodup h.2⟩
    obtain ⟨b, hb, e⟩ := List.mem_map.1 hm
    exact h.1 b hb ((sameB_iff b a).1 (keyA_inj e)).1.symm
theorem same_keyR {r s : List Attr} (hr : r.Pairwise (fun a b => a.1 ≠ b.1)) (hs : s.Pairwise (fun a b => a.1 ≠ b.1)) (h : sameR r s = true) : keyR r = keyR s := by
 obtain ⟨hl, h1, h2⟩ := (sameR_iff r s).1 h
 have hp : (r.map keyA).Perm (s.map keyA) := by
  refine (List.perm_ext_iff_of_nodup (key_nodup hr) (key_nodup hs)).2 fun k => ⟨fun hk => ?_, fun hk => ?_⟩
  ·obtain ⟨x, hx, rfl⟩ := List.mem_map.1 hk
   obtain ⟨y, hy, e⟩ := (hasA_iff _ _).1 (h1 x hx)
   rw [keyA_of e]
   exact List.mem_map_of_mem hy
  ·obtain ⟨x, hx, rfl⟩ := List.mem_map.1 hk
   obtain ⟨y, hy, e⟩ := (hasA_iff _ _).1 (h2 x hx)
   rw [keyA_of e]
   exact List.mem_map_of_mem hy
 exact List.Perm.eq_of_pairwise (le := fun a b => leL a b = true) (fun a b _ _ h1 h2 => leL_anti h1 h2) (ordF_pair _) (ordF_pair _) ((ordF_perm _).trans (hp.trans (ordF_perm _).symm))
theorem same_keys : ∀ {n m : Name}, (∀ r ∈ n, okR r) → (∀ r ∈ m, okR r) → NSame n m → n.flatMap keyP = m.flatMap keyP
  | [], [], _, _, _ => rfl
  | r :: n, s :: m, hn, hm, h => by
    have ih := same_keys (fun x hx => hn x (by simp [hx])) (fun x hx => hm x (by simp [hx])) h.2
    have hk := same_keyR (hn r (by simp)).2.2.2 (hm s (by simp)).2.2.2 h.1
    have hl := ((sameR_iff r s).1 h.1).1
    rw [List.flatMap_cons, List.flatMap_cons, ih, keyP, keyP, hk, hl]
  | [], _ :: _, _, _, h => h.elim
  | _ :: _, [], _, _, h => h.elim
theorem zip_same : ∀ {n m : Name}, n.length = m.length → (∀ p ∈ n.zip m, sameR p.1 p.2 = true) → NSame n m
 | [], [], _, _ => trivial
 | r :: n, s :: m, hl, h => ⟨h (r, s) (by simp), zip_same (by simpa using hl) (fun p hp => h p (by simp [hp]))⟩
 | [], _ :: _, hl, _ => by simp at hl
 | _ :: _, [], hl, _ => by simp at hl
theorem key_match {n m : Name} (hn : chkN n = 0) (hm : chkN m = 0) : (keyN n == keyN m) = matchN n m := by
 rw [Bool.eq_iff_iff, beq_iff_eq, matchN_iff]
 constructor
 ·intro h
  obtain ⟨h1, h2⟩ := jInt_inj h
  exact zip_same h1 (fun p hp => by
   obtain ⟨h3, h4⟩ := keyPs_inj h1 h2 p hp
   exact keyR_same h3 h4)
 ·intro h
  unfold keyN
  rw [h.len, same_keys ((chkN_iff n).1 hn).2 ((chkN_iff m).1 hm).2 h]
theorem jStr_len (s : List UInt8) (h : s.length < 1000000) : (jStr s).length ≤ s.length + 8 := by
 rw [jStr, List.length_append, List.length_cons]
 have := decL_len 5 s.length h
 omega
end Go.Proofs.YtahamclodagihaaGreatDoor
