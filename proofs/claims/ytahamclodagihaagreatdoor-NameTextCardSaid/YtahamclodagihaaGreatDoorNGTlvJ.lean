/- The reference's decoder of fields: Open, Need, May, End. -/
import Derived.Test.YtahamclodagihaaGreatDoorNGTlvA
import Derived.Test.YtahamclodagihaaGreatDoorNGLibD
namespace Go.Proofs.YtahamclodagihaaGreatDoor
open Go.RowKit
def FAt (w : World) (g : Nat) (rest : List Elt) : Prop :=
 ∃ (l : List Elt) (A : Option Addr) (c k : Nat) (T : TypeId), w.heap[g]? = some (.cells #[.slice A l.length c, .int .i64 (k : Int)] T (0, 0)) ∧ k ≤ l.length ∧ rest = l.drop k ∧ Sl RElt 3 w (Nd g w.heap.size) l [.slice A l.length c]
theorem FAt.lt {w : World} {g : Nat} {rest : List Elt} (h : FAt w g rest) : g < w.heap.size := by
 obtain ⟨l, A, c, k, T, h1, _⟩ := h
 exact (Array.getElem?_eq_some_iff.1 h1).1
theorem FAt.below {w w' : World} {g : Nat} {rest : List Elt} (h : FAt w g rest) (hb : Below w.heap.size w w') : FAt w' g rest := by
 have hlt := h.lt
 obtain ⟨l, A, c, k, T, h1, h2, h3, h4⟩ := h
 exact ⟨l, A, c, k, T, (hb.block g hlt).trans h1, h2, h3, (Sl.ok RElt.ok).mono h4 (fun j hj => hb.block j hj.1) (fun j hj => ⟨Nat.lt_of_lt_of_le hj.1 hb.size, hj.2⟩)⟩
theorem FAt.drewN {w : World} {g : Nat} {rest : List Elt} (h : FAt w g rest) (n : Nat) : FAt (w.drewN n) g rest := h
theorem FAt.ex {w w' : World} {g d : Nat} {rest : List Elt} (h : FAt w g rest) (hb : Ex d w w') (hd : w.heap.size ≤ d) : FAt w' g rest := by
 have hlt := h.lt
 obtain ⟨l, A, c, k, T, h1, h2, h3, h4⟩ := h
 exact ⟨l, A, c, k, T, (hb.block g hlt (fun e => by simp only [Option.some.injEq] at e; omega)).trans h1, h2, h3, (Sl.ok RElt.ok).mono h4 (fun j hj => hb.block j hj.1 (fun e => by have := hj.1; simp only [Option.some.injEq] at e; omega)) (fun j hj => ⟨Nat.lt_of_lt_of_le hj.1 hb.size, hj.2⟩)⟩
def needF : List Elt → Int → Except Int Elt × List Elt
 | [], _ => (.error 3, [])
 | a :: r, t => if 0 ≤ t ∧ (a.1 : Int) ≠ t then (.error 5, a :: r) else (.ok a, r)
def mayF : List Elt → Int → Option Elt × List Elt
 | [], _ => (none, [])
 | a :: r, t => if (a.1 : Int) = t then (some a, r) else (none, a :: r)
def mayR : Option Elt → Value
 | none => .tuple #[noElt, .bool false]
 | some e => .tuple #[eltV e, .bool true]
theorem FAt.facts {w : World} {g : Nat} {rest : List Elt} (h : FAt w g rest) : ∃ (l : List Elt) (A : Option Addr) (c k : Nat) (T : TypeId), w.heap[g]? = some (.cells #[.slice A l.length c, .int .i64 (k : Int)] T (0, 0)) ∧ k ≤ l.length ∧ rest = l.drop k ∧ Sl RElt 3 w (Nd g w.heap.size) l [.slice A l.length c] ∧
  w.cell? ⟨g, 0, none⟩ = some (.slice A l.length c) ∧ w.cell? ⟨g, 1, none⟩ = some (.int .i64 (k : Int)) ∧ w.frozen? ⟨g, 1, none⟩ = false := by
 obtain ⟨l, A, c, k, T, h1, h2, h3, h4⟩ := h
 exact ⟨l, A, c, k, T, h1, h2, h3, h4, by simp [World.cell?, h1], by simp [World.cell?, h1], by simp [World.frozen?, h1]⟩
theorem Sl.eltAt {w : World} {S : Nat → Prop} {A : Option Addr} {n c : Nat} {l : List Elt} (h : Sl RElt 3 w S l [.slice A n c]) {i : Nat} (hi : i < l.length) :
  ∃ b off, A = some ⟨b, off, none⟩ ∧ S b ∧ w.cell? ⟨b, off + i * 3, none⟩ = some (.int .i64 (l[i].1 : Int)) ∧ w.cell? ⟨b, off + i * 3 + 1, none⟩ = some (.string ⟨l[i].2.1.toArray⟩) ∧ w.cell? ⟨b, off + i * 3 + 2, none⟩ = some (.string ⟨l[i].2.2.toArray⟩) := by
 obtain ⟨b, off, xs, hA, hb, hr, hc⟩ := h.at_ hi
 have e : xs = eltC l[i] := hr
 subst e
 exact ⟨b, off, hA, hb, by simpa using hc 0 _ rfl, by simpa [Nat.add_assoc] using hc 1 _ rfl, by simpa [Nat.add_assoc] using hc 2 _ rfl⟩
theorem drop_cons {α : Type} {l r : List α} {a : α} {k : Nat} (h : a :: r = l.drop k) : ∃ hk : k < l.length, l[k] = a ∧ r = l.drop (k + 1) := by
 have hk : k < l.length := by
  rcases Nat.lt_or_ge k l.length with h1 | h1
  ·exact h1
  ·rw [List.drop_of_length_le h1] at h; cases h
 rw [List.drop_eq_getElem_cons hk] at h
 cases h
 exact ⟨hk, rfl, rfl⟩
theorem below_ex {B d : Nat} {a w w' : World} (h : Below B a w) (hB : B ≤ w.heap.size) (hd : B ≤ d) (hx : Ex d w w') : Below B a w' := Ex.below h hB hd hx
set_option maxHeartbeats 1000000 in
theorem End_any (g : Nat) (rest : List Elt) (w : World) (h : FAt w g rest) :
  Calls Tryz.prog 90 #[.pointer (some ⟨g, 0, none⟩)] w fun e w' => e = .returned (.int .i64 (if rest = [] then 0 else 4)) ∧ ∃ n, w' = w.drewN n := by
 obtain ⟨l, A, c, k, T, hh, hk, hr, hsl, c0, c1, f1⟩ := h.facts
 obtain ⟨-, hlc, hcm⟩ := hsl.len_
 unfold maxLen at hcm
 clear h hsl
 by_cases h0 : rest = []
 ·have hkl : ¬ (k : Int) < (l.length : Int) := by
   intro hlt
   rw [h0, List.drop_eq_getElem_cons (by omega)] at hr
   cases hr
  rw [if_pos h0]
  clear h0 hr
  go_enter Tryz.func90, Tryz.ntmps90
  go_wp2_with fail
  go_quiet (fail)
  go_wp2_with fail
  go_ret
  exact ⟨rfl, _, rfl⟩
 ·have hkl : (k : Int) < (l.length : Int) := by
   rcases Nat.lt_or_ge k l.length with h1 | h1
   ·omega
   ·exact absurd (hr.trans (List.drop_of_length_le h1)) h0
  rw [if_neg h0]
  clear h0 hr
  go_enter Tryz.func90, Tryz.ntmps90
  go_wp2_with fail
  go_quiet (fail)
  go_wp2_with fail
  go_ret
  exact ⟨rfl, _, rfl⟩
theorem FAt.mk' {w W : World} {g k : Nat} {l : List Elt} {A : Option Addr} {c : Nat} {T : TypeId} (hsl : Sl RElt 3 w (Nd g w.heap.size) l [.slice A l.length c]) (hx : Ex g w W)
  (hg : W.heap[g]? = some (.cells #[.slice A l.length c, .int .i64 (k : Int)] T (0, 0))) (hk : k ≤ l.length) : FAt W g (l.drop k) :=
 ⟨l, A, c, k, T, hg, hk, rfl, (Sl.ok RElt.ok).mono hsl (fun j hj => hx.keeps j hj) (fun _ hj => ⟨Nat.lt_of_lt_of_le hj.1 hx.size, hj.2⟩)⟩
set_option maxRecDepth 100000 in
set_option maxHeartbeats 4000000 in
theorem Need_any (g : Nat) (rest : List Elt) (t : Int) (w : World) (h : FAt w g rest) :
    Calls Tryz.prog 144 #[.pointer (some ⟨g, 0, none⟩), .int .i64 t] w fun e w' => e = .returned (oneR (needF rest t).1) ∧ FAt w' g (needF rest t).2 ∧ Ex g w w' := by
  have hglt := h.lt
  obtain ⟨l, A, c, k, T, hh, hk, hr, hsl, c0, c1, f1⟩ := h.facts
  obtain ⟨-, hlc, hcm⟩ := hsl.len_
  unfold maxLen at hcm
  have HSL := hide hsl
  have hgne : g ≠ w.heap.size := by omega
  clear h hsl
  obtain ⟨W0, hW0⟩ : ∃ W, W = w.alloc (.cells #[.int .i64 0, .string ⟨#[]⟩, .string ⟨#[]⟩] 72) := ⟨_, rfl⟩
  have hr0 : ResE w.heap.size W0 := by rw [hW0]; exact resE_new w
  have hx0 : Ex g w W0 := by rw [hW0]; exact Ex.of_below ((Below.refl _ _).alloc (Nat.le_refl _) _)
  have hg0 : W0.heap[g]? = some (.cells #[.slice A l.length c, .int .i64 (k : Int)] T (0, 0)) := by rw [hW0]; exact (Below.heap_alloc _ _ _ hglt).trans hh
  have hz0 : w.heap.size < W0.heap.size := by rw [hW0]; simp
  have d0 : W0.cell? ⟨g, 0, none⟩ = some (.slice A l.length c) := by simp [World.cell?, hg0]
  have d1 : W0.cell? ⟨g, 1, none⟩ = some (.int .i64 (k : Int)) := by simp [World.cell?, hg0]
  have HR0 := hide hr0
  have HX0 := hide hx0
  have HG0 := hide hg0
  clear c0 c1 f1 hh hr0 hx0 hg0
  match rest, hr with
  | [], hr =>
    have hkl : k = l.length := by
      rcases Nat.lt_or_ge k l.length with h1 | h1
      · rw [List.drop_eq_getElem_cons h1] at hr; cases hr
      · omega
    have hge : (l.length : Int) ≤ (k : Int) := by omega
    have HRR := hide hr.symm
    have HN := hide (show needF [] t = (.error 3, []) from rfl)
    clear hr hkl
    go_enter Tryz.func144, Tryz.ntmps144
    go_upto_region 1 with fail
    rw [← hW0]
    clear hW0
    go_quiet (fail)
    obtain ⟨W1, hW1⟩ : ∃ W, W = W0.drewN nq := ⟨_, rfl⟩
    have hr1 : ResE w.heap.size W1 := by rw [hW1]; exact HR0.out.drewN nq
    have hx1 : Ex g w W1 := by rw [hW1]; exact HX0.out.drewN nq
    have hg1 : W1.heap[g]? = some (.cells #[.slice A l.length c, .int .i64 (k : Int)] T (0, 0)) := by rw [hW1]; exact HG0.out
    rw [← hW1]
    clear hW1 d0 d1
    obtain ⟨r0, r1, r2, f0, f1, f2⟩ := hr1.facts
    go_wp2_with fail
    obtain ⟨q0, q1, q2⟩ := hr1.store (.int .i64 0) (.string ⟨#[]⟩) (.string ⟨#[]⟩)
    have hxz := ((Ex.setNew (j := 0) hx1 (Nat.le_refl w.heap.size) (.int .i64 0)).setNew (j := 1) (Nat.le_refl w.heap.size) (.string ⟨#[]⟩)).setNew (j := 2) (Nat.le_refl w.heap.size) (.string ⟨#[]⟩)
    have hgz := (Below.heap_setCell ((W1.setCell ⟨w.heap.size, 0, none⟩ (.int .i64 0)).setCell ⟨w.heap.size, 1, none⟩ (.string ⟨#[]⟩)) ⟨w.heap.size, 2, none⟩ (.string ⟨#[]⟩) g hgne).trans ((Below.heap_setCell (W1.setCell ⟨w.heap.size, 0, none⟩ (.int .i64 0)) ⟨w.heap.size, 1, none⟩ (.string ⟨#[]⟩) g hgne).trans ((Below.heap_setCell W1 ⟨w.heap.size, 0, none⟩ (.int .i64 0) g hgne).trans hg1))
    obtain ⟨W3, hW3⟩ : ∃ W3, W3 = ((W1.setCell ⟨w.heap.size, 0, none⟩ (.int .i64 0)).setCell ⟨w.heap.size, 1, none⟩ (.string ⟨#[]⟩)).setCell ⟨w.heap.size, 2, none⟩ (.string ⟨#[]⟩) := ⟨_, rfl⟩
    rw [← hW3] at q0 q1 q2 hxz hgz ⊢
    have hfz := FAt.mk' (k := k) HSL.out hxz hgz (by omega)
    exact bodyPost_ret (v := .tuple #[.agg #[(.int .i64 0), (.string ⟨#[]⟩), (.string ⟨#[]⟩)], .int .i64 3]) (by simp [results, Tryz.results144, go_sem, q0, q1, q2]) rfl ⟨by rw [HN.out]; rfl, by rw [HN.out]; rw [HRR.out] at hfz; exact hfz, hxz⟩
  | a :: r, hr =>
    obtain ⟨hkl, hak, hrr⟩ := drop_cons hr
    have hlt : ¬ (l.length : Int) ≤ (k : Int) := by omega
    have hlti : (k : Int) < (l.length : Int) := by omega
    obtain ⟨b, off, hA, hbS, e0, e1, e2⟩ := HSL.out.eltAt hkl
    rw [hak] at e0 e1 e2
    obtain ⟨at_, ac, ar⟩ := a
    simp only at e0 e1 e2
    subst hA
    obtain ⟨x1, hx1⟩ : ∃ x : ByteArray, x = ⟨ac.toArray⟩ := ⟨_, rfl⟩
    obtain ⟨x2, hx2⟩ : ∃ x : ByteArray, x = ⟨ar.toArray⟩ := ⟨_, rfl⟩
    rw [← hx1] at e1
    rw [← hx2] at e2
    have p0 : W0.cell? ⟨b, off + k * 3, none⟩ = some (.int .i64 (at_ : Int)) := (HX0.out.cell (p := ⟨b, off + k * 3, none⟩) hbS.1 hbS.2).trans e0
    have p1 : W0.cell? ⟨b, off + k * 3 + 1, none⟩ = some (.string x1) := (HX0.out.cell (p := ⟨b, off + k * 3 + 1, none⟩) hbS.1 hbS.2).trans e1
    have p2 : W0.cell? ⟨b, off + k * 3 + 2, none⟩ = some (.string x2) := (HX0.out.cell (p := ⟨b, off + k * 3 + 2, none⟩) hbS.1 hbS.2).trans e2
    have HV := hide (show eltV (at_, ac, ar) = .agg #[.int .i64 (at_ : Int), .string x1, .string x2] by rw [eltV, hx1, hx2])
    have HRK := hide hr
    have HRR := hide hrr
    clear e0 e1 e2 hx1 hx2 hr hrr hak
    go_enter Tryz.func144, Tryz.ntmps144
    go_upto_region 1 with fail
    rw [← hW0]
    clear hW0
    go_quiet (fail)
    obtain ⟨W1, hW1⟩ : ∃ W, W = W0.drewN nq := ⟨_, rfl⟩
    have hr1 : ResE w.heap.size W1 := by rw [hW1]; exact HR0.out.drewN nq
    have hx1 : Ex g w W1 := by rw [hW1]; exact HX0.out.drewN nq
    have hg1 : W1.heap[g]? = some (.cells #[.slice (some ⟨b, off, none⟩) l.length c, .int .i64 (k : Int)] T (0, 0)) := by rw [hW1]; exact HG0.out
    have d0' : W1.cell? ⟨g, 0, none⟩ = some (.slice (some ⟨b, off, none⟩) l.length c) := by rw [hW1]; exact d0
    have d1' : W1.cell? ⟨g, 1, none⟩ = some (.int .i64 (k : Int)) := by rw [hW1]; exact d1
    have p0' : W1.cell? ⟨b, off + k * 3, none⟩ = some (.int .i64 (at_ : Int)) := by rw [hW1]; exact p0
    have p1' : W1.cell? ⟨b, off + k * 3 + 1, none⟩ = some (.string x1) := by rw [hW1]; exact p1
    have p2' : W1.cell? ⟨b, off + k * 3 + 2, none⟩ = some (.string x2) := by rw [hW1]; exact p2
    have hz1 : w.heap.size < W1.heap.size := by rw [hW1]; exact hz0
    rw [← hW1]
    clear hW1 d0 d1 p0 p1 p2 hz0
    have HR1 := hide hr1
    have HX1 := hide hx1
    have HG1 := hide hg1
    clear hr1 hx1 hg1
    have hgl1 : g < W1.heap.size := by omega
    have hbl1 : b < W1.heap.size := by have := hbS.1; omega
    have a0 : ∀ ob, (W1.alloc ob).cell? ⟨g, 0, none⟩ = some (.slice (some ⟨b, off, none⟩) l.length c) := fun ob => by rw [World.cell?_alloc_lt _ _ _ (by exact hgl1)]; exact d0'
    have a1 : ∀ ob, (W1.alloc ob).cell? ⟨g, 1, none⟩ = some (.int .i64 (k : Int)) := fun ob => by rw [World.cell?_alloc_lt _ _ _ (by exact hgl1)]; exact d1'
    have b0 : ∀ ob, (W1.alloc ob).cell? ⟨b, off + k * 3, none⟩ = some (.int .i64 (at_ : Int)) := fun ob => by rw [World.cell?_alloc_lt _ _ _ (by exact hbl1)]; exact p0'
    have b1 : ∀ ob, (W1.alloc ob).cell? ⟨b, off + k * 3 + 1, none⟩ = some (.string x1) := fun ob => by rw [World.cell?_alloc_lt _ _ _ (by exact hbl1)]; exact p1'
    have b2 : ∀ ob, (W1.alloc ob).cell? ⟨b, off + k * 3 + 2, none⟩ = some (.string x2) := fun ob => by rw [World.cell?_alloc_lt _ _ _ (by exact hbl1)]; exact p2'
    go_upto_region 3 with fail
    go_region
    all_goals
      obtain ⟨W2, hW2⟩ : ∃ W, W = (W1.alloc (.cells #[.int .i64 (at_ : Int), .string x1, .string x2] 72)).drew := ⟨_, rfl⟩
      have hr2 : ResE w.heap.size W2 := by rw [hW2]; show ResE w.heap.size (W1.alloc _); exact HR1.out.below ((Below.refl _ _).alloc (Nat.le_refl _) _)
      have hx2 : Ex g w W2 := by rw [hW2]; exact (HX1.out.then_ ((Below.refl _ _).alloc (Nat.le_refl _) _)).drew
      have hg2 : W2.heap[g]? = some (.cells #[.slice (some ⟨b, off, none⟩) l.length c, .int .i64 (k : Int)] T (0, 0)) := by rw [hW2]; exact (Below.heap_alloc _ _ _ hgl1).trans HG1.out
      have m1 : W2.cell? ⟨g, 1, none⟩ = some (.int .i64 (k : Int)) := by simp [World.cell?, hg2]
      have mf : W2.frozen? ⟨g, 1, none⟩ = false := by simp [World.frozen?, hg2]
      have n0 : W2.cell? ⟨W1.heap.size, 0, none⟩ = some (.int .i64 (at_ : Int)) := by rw [hW2]; show (W1.alloc _).cell? _ = _; rw [World.cell?_alloc_new]; rfl
      have n1 : W2.cell? ⟨W1.heap.size, 1, none⟩ = some (.string x1) := by rw [hW2]; show (W1.alloc _).cell? _ = _; rw [World.cell?_alloc_new]; rfl
      have n2 : W2.cell? ⟨W1.heap.size, 2, none⟩ = some (.string x2) := by rw [hW2]; show (W1.alloc _).cell? _ = _; rw [World.cell?_alloc_new]; rfl
      rw [← hW2]
      obtain ⟨gE, hgE⟩ : ∃ g, g = W1.heap.size := ⟨_, rfl⟩
      have hgE2 : g ≠ gE := by omega
      rw [← hgE] at n0 n1 n2 ⊢
      clear hW2 hgE a0 a1 b0 b1 b2 d0' d1' p0' p1' p2' HR1 HX1 HG1 hgl1 hbl1 hz1
      have HR2 := hide hr2
      have HX2 := hide hx2
      have HG2 := hide hg2
      clear hr2 hx2 hg2
      by_cases hbad : 0 ≤ t ∧ (at_ : Int) ≠ t
      · have HN := hide (show needF ((at_, ac, ar) :: r) t = (.error 5, (at_, ac, ar) :: r) by rw [needF, if_pos hbad])
        obtain ⟨hb1, hb2⟩ := hbad
        have hb3 : ((at_ : Int) != t) = true := by simpa using hb2
        clear hb2
        obtain ⟨r0, r1, r2, f0, f1, f2⟩ := HR2.out.facts
        go_wp2_with fail
        obtain ⟨q0, q1, q2⟩ := HR2.out.store (.int .i64 0) (.string ⟨#[]⟩) (.string ⟨#[]⟩)
        have hxz := ((Ex.setNew (j := 0) HX2.out (Nat.le_refl w.heap.size) (.int .i64 0)).setNew (j := 1) (Nat.le_refl w.heap.size) (.string ⟨#[]⟩)).setNew (j := 2) (Nat.le_refl w.heap.size) (.string ⟨#[]⟩)
        have hgz := (Below.heap_setCell ((W2.setCell ⟨w.heap.size, 0, none⟩ (.int .i64 0)).setCell ⟨w.heap.size, 1, none⟩ (.string ⟨#[]⟩)) ⟨w.heap.size, 2, none⟩ (.string ⟨#[]⟩) g hgne).trans ((Below.heap_setCell (W2.setCell ⟨w.heap.size, 0, none⟩ (.int .i64 0)) ⟨w.heap.size, 1, none⟩ (.string ⟨#[]⟩) g hgne).trans ((Below.heap_setCell W2 ⟨w.heap.size, 0, none⟩ (.int .i64 0) g hgne).trans HG2.out))
        obtain ⟨W3, hW3⟩ : ∃ W3, W3 = ((W2.setCell ⟨w.heap.size, 0, none⟩ (.int .i64 0)).setCell ⟨w.heap.size, 1, none⟩ (.string ⟨#[]⟩)).setCell ⟨w.heap.size, 2, none⟩ (.string ⟨#[]⟩) := ⟨_, rfl⟩
        rw [← hW3] at q0 q1 q2 hxz hgz ⊢
        have hfz := FAt.mk' (k := k) HSL.out hxz hgz (by omega)
        exact bodyPost_ret (v := .tuple #[.agg #[(.int .i64 0), (.string ⟨#[]⟩), (.string ⟨#[]⟩)], .int .i64 5]) (by simp [results, Tryz.results144, go_sem, q0, q1, q2]) rfl ⟨by rw [HN.out]; rfl, by rw [HN.out]; rw [← HRK.out] at hfz; exact hfz, hxz⟩
      · have HN := hide (show needF ((at_, ac, ar) :: r) t = (.ok (at_, ac, ar), r) by rw [needF, if_neg hbad])
        have hw : IntKind.i64.wrap ((k : Int) + 1) = (k : Int) + 1 := IntWalk.i64_in _ (by omega)
        have hcase : ¬ (0 : Int) ≤ t ∨ ((0 : Int) ≤ t ∧ ((at_ : Int) != t) = false) := by
          by_cases h0 : 0 ≤ t
          · exact .inr ⟨h0, by by_cases h1 : (at_ : Int) = t; simpa using h1; exact absurd ⟨h0, h1⟩ hbad⟩
          · exact .inl h0
        clear hbad
        rcases hcase with hb1 | ⟨hb1, hb3⟩
        all_goals
          go_upto_region 7 with fail
          obtain ⟨W4, hW4⟩ : ∃ W, W = W2.setCell ⟨g, 1, none⟩ (.int .i64 ((k : Int) + 1)) := ⟨_, rfl⟩
          have hr4 : ResE w.heap.size W4 := by rw [hW4]; exact (Below.heap_setCell W2 ⟨g, 1, none⟩ _ w.heap.size (fun e => hgne e.symm)).trans HR2.out
          have hx4 : Ex g w W4 := by rw [hW4]; exact HX2.out.trans (Ex.set g 1 _ _)
          have hg4 : W4.heap[g]? = some (.cells #[.slice (some ⟨b, off, none⟩) l.length c, .int .i64 ((k + 1 : Nat) : Int)] T (0, 0)) := by rw [hW4]; exact deck_step HG2.out
          have hE4 := Below.heap_setCell W2 ⟨g, 1, none⟩ (.int .i64 ((k : Int) + 1)) gE (fun e => hgE2 e.symm)
          rw [← hW4] at hE4
          have k0 : W4.cell? ⟨gE, 0, none⟩ = some (.int .i64 (at_ : Int)) := (World.cell?_of_block (w := W2) (a := ⟨gE, 0, none⟩) hE4).trans n0
          have k1 : W4.cell? ⟨gE, 1, none⟩ = some (.string x1) := (World.cell?_of_block (w := W2) (a := ⟨gE, 1, none⟩) hE4).trans n1
          have k2 : W4.cell? ⟨gE, 2, none⟩ = some (.string x2) := (World.cell?_of_block (w := W2) (a := ⟨gE, 2, none⟩) hE4).trans n2
          rw [← hW4]
          clear hW4 hE4 n0 n1 n2 m1 mf
          obtain ⟨r0, r1, r2, f0, f1, f2⟩ := hr4.facts
          go_wp2_with fail
          obtain ⟨q0, q1, q2⟩ := hr4.store (.int .i64 (at_ : Int)) (.string x1) (.string x2)
          have hxz := ((Ex.setNew (j := 0) hx4 (Nat.le_refl w.heap.size) (.int .i64 (at_ : Int))).setNew (j := 1) (Nat.le_refl w.heap.size) (.string x1)).setNew (j := 2) (Nat.le_refl w.heap.size) (.string x2)
          have hgz := (Below.heap_setCell ((W4.setCell ⟨w.heap.size, 0, none⟩ (.int .i64 (at_ : Int))).setCell ⟨w.heap.size, 1, none⟩ (.string x1)) ⟨w.heap.size, 2, none⟩ (.string x2) g hgne).trans ((Below.heap_setCell (W4.setCell ⟨w.heap.size, 0, none⟩ (.int .i64 (at_ : Int))) ⟨w.heap.size, 1, none⟩ (.string x1) g hgne).trans ((Below.heap_setCell W4 ⟨w.heap.size, 0, none⟩ (.int .i64 (at_ : Int)) g hgne).trans hg4))
          obtain ⟨W3, hW3⟩ : ∃ W3, W3 = ((W4.setCell ⟨w.heap.size, 0, none⟩ (.int .i64 (at_ : Int))).setCell ⟨w.heap.size, 1, none⟩ (.string x1)).setCell ⟨w.heap.size, 2, none⟩ (.string x2) := ⟨_, rfl⟩
          rw [← hW3] at q0 q1 q2 hxz hgz ⊢
          have hfz := FAt.mk' (k := (k + 1)) HSL.out hxz hgz (by omega)
          exact bodyPost_ret (v := .tuple #[.agg #[(.int .i64 (at_ : Int)), (.string x1), (.string x2)], .int .i64 0]) (by simp [results, Tryz.results144, go_sem, q0, q1, q2]) rfl ⟨by rw [HN.out]; rw [oneR, HV.out], by rw [HN.out]; rw [← HRR.out] at hfz; exact hfz, hxz⟩
end Go.Proofs.YtahamclodagihaaGreatDoor
namespace Go.Proofs.YtahamclodagihaaGreatDoor
open Go.RowKit
set_option maxRecDepth 100000 in
set_option maxHeartbeats 4000000 in
theorem May_any (g : Nat) (rest : List Elt) (t : Int) (w : World) (h : FAt w g rest) :
    Calls Tryz.prog 88 #[.pointer (some ⟨g, 0, none⟩), .int .i64 t] w fun e w' => e = .returned (mayR (mayF rest t).1) ∧ FAt w' g (mayF rest t).2 ∧ Ex g w w' := by
  have hglt := h.lt
  obtain ⟨l, A, c, k, T, hh, hk, hr, hsl, c0, c1, f1⟩ := h.facts
  obtain ⟨-, hlc, hcm⟩ := hsl.len_
  unfold maxLen at hcm
  have HSL := hide hsl
  have hgne : g ≠ w.heap.size := by omega
  clear h hsl
  obtain ⟨W0, hW0⟩ : ∃ W, W = w.alloc (.cells #[.int .i64 0, .string ⟨#[]⟩, .string ⟨#[]⟩] 72) := ⟨_, rfl⟩
  have hr0 : ResE w.heap.size W0 := by rw [hW0]; exact resE_new w
  have hx0 : Ex g w W0 := by rw [hW0]; exact Ex.of_below ((Below.refl _ _).alloc (Nat.le_refl _) _)
  have hg0 : W0.heap[g]? = some (.cells #[.slice A l.length c, .int .i64 (k : Int)] T (0, 0)) := by rw [hW0]; exact (Below.heap_alloc _ _ _ hglt).trans hh
  have hz0 : w.heap.size < W0.heap.size := by rw [hW0]; simp
  have d0 : W0.cell? ⟨g, 0, none⟩ = some (.slice A l.length c) := by simp [World.cell?, hg0]
  have d1 : W0.cell? ⟨g, 1, none⟩ = some (.int .i64 (k : Int)) := by simp [World.cell?, hg0]
  have HR0 := hide hr0
  have HX0 := hide hx0
  have HG0 := hide hg0
  clear c0 c1 f1 hh hr0 hx0 hg0
  match rest, hr with
  | [], hr =>
    have hkl : k = l.length := by
      rcases Nat.lt_or_ge k l.length with h1 | h1
      · rw [List.drop_eq_getElem_cons h1] at hr; cases hr
      · omega
    have hge : (l.length : Int) ≤ (k : Int) := by omega
    have HRR := hide hr.symm
    have HN := hide (show mayF [] t = (none, []) from rfl)
    clear hr hkl
    go_enter Tryz.func88, Tryz.ntmps88
    go_upto_region 1 with fail
    rw [← hW0]
    clear hW0
    go_quiet (fail)
    obtain ⟨W1, hW1⟩ : ∃ W, W = W0.drewN nq := ⟨_, rfl⟩
    have hr1 : ResE w.heap.size W1 := by rw [hW1]; exact HR0.out.drewN nq
    have hx1 : Ex g w W1 := by rw [hW1]; exact HX0.out.drewN nq
    have hg1 : W1.heap[g]? = some (.cells #[.slice A l.length c, .int .i64 (k : Int)] T (0, 0)) := by rw [hW1]; exact HG0.out
    rw [← hW1]
    clear hW1 d0 d1
    obtain ⟨r0, r1, r2, f0, f1, f2⟩ := hr1.facts
    go_wp2_with fail
    obtain ⟨q0, q1, q2⟩ := hr1.store (.int .i64 0) (.string ⟨#[]⟩) (.string ⟨#[]⟩)
    have hxz := ((Ex.setNew (j := 0) hx1 (Nat.le_refl w.heap.size) (.int .i64 0)).setNew (j := 1) (Nat.le_refl w.heap.size) (.string ⟨#[]⟩)).setNew (j := 2) (Nat.le_refl w.heap.size) (.string ⟨#[]⟩)
    have hgz := (Below.heap_setCell ((W1.setCell ⟨w.heap.size, 0, none⟩ (.int .i64 0)).setCell ⟨w.heap.size, 1, none⟩ (.string ⟨#[]⟩)) ⟨w.heap.size, 2, none⟩ (.string ⟨#[]⟩) g hgne).trans ((Below.heap_setCell (W1.setCell ⟨w.heap.size, 0, none⟩ (.int .i64 0)) ⟨w.heap.size, 1, none⟩ (.string ⟨#[]⟩) g hgne).trans ((Below.heap_setCell W1 ⟨w.heap.size, 0, none⟩ (.int .i64 0) g hgne).trans hg1))
    obtain ⟨W3, hW3⟩ : ∃ W3, W3 = ((W1.setCell ⟨w.heap.size, 0, none⟩ (.int .i64 0)).setCell ⟨w.heap.size, 1, none⟩ (.string ⟨#[]⟩)).setCell ⟨w.heap.size, 2, none⟩ (.string ⟨#[]⟩) := ⟨_, rfl⟩
    rw [← hW3] at q0 q1 q2 hxz hgz ⊢
    have hfz := FAt.mk' (k := k) HSL.out hxz hgz (by omega)
    exact bodyPost_ret (v := .tuple #[.agg #[(.int .i64 0), (.string ⟨#[]⟩), (.string ⟨#[]⟩)], .bool false]) (by simp [results, Tryz.results88, go_sem, q0, q1, q2]) rfl ⟨by rw [HN.out]; rfl, by rw [HN.out]; rw [HRR.out] at hfz; exact hfz, hxz⟩
  | a :: r, hr =>
    obtain ⟨hkl, hak, hrr⟩ := drop_cons hr
    have hlt : ¬ (l.length : Int) ≤ (k : Int) := by omega
    have hlti : (k : Int) < (l.length : Int) := by omega
    have hdec : (decide ((l.length : Int) ≤ (k : Int))) = false := decide_eq_false hlt
    obtain ⟨b, off, hA, hbS, e0, e1, e2⟩ := HSL.out.eltAt hkl
    rw [hak] at e0 e1 e2
    obtain ⟨at_, ac, ar⟩ := a
    simp only at e0 e1 e2
    subst hA
    obtain ⟨x1, hx1⟩ : ∃ x : ByteArray, x = ⟨ac.toArray⟩ := ⟨_, rfl⟩
    obtain ⟨x2, hx2⟩ : ∃ x : ByteArray, x = ⟨ar.toArray⟩ := ⟨_, rfl⟩
    rw [← hx1] at e1
    rw [← hx2] at e2
    have P := hide (fun (W : World) (hW : W.heap[b]? = w.heap[b]?) => (show W.cell? ⟨b, off + k * 3, none⟩ = some (.int .i64 (at_ : Int)) ∧ W.cell? ⟨b, off + k * 3 + 1, none⟩ = some (.string x1) ∧ W.cell? ⟨b, off + k * 3 + 2, none⟩ = some (.string x2) from
      ⟨(World.cell?_of_block (w := w) (a := ⟨b, off + k * 3, none⟩) hW).trans e0, (World.cell?_of_block (w := w) (a := ⟨b, off + k * 3 + 1, none⟩) hW).trans e1, (World.cell?_of_block (w := w) (a := ⟨b, off + k * 3 + 2, none⟩) hW).trans e2⟩))
    have HV := hide (show eltV (at_, ac, ar) = .agg #[.int .i64 (at_ : Int), .string x1, .string x2] by rw [eltV, hx1, hx2])
    have HRK := hide hr
    have HRR := hide hrr
    have HBS := hide hbS
    clear e0 e1 e2 hx1 hx2 hr hrr hak hbS
    by_cases hbad : (at_ : Int) = t
    · have HN := hide (show mayF ((at_, ac, ar) :: r) t = (some (at_, ac, ar), r) by rw [mayF, if_pos hbad])
      have hb3 : ((at_ : Int) != t) = false := by simpa using hbad
      have hw : IntKind.i64.wrap ((k : Int) + 1) = (k : Int) + 1 := IntWalk.i64_in _ (by omega)
      have hw1 : IntKind.i64.wrap ((k : Int) + 1 - 1) = (k : Int) := by rw [IntWalk.i64_in _ (by omega)]; omega
      clear hbad
      go_enter Tryz.func88, Tryz.ntmps88
      go_upto_region 1 with fail
      rw [← hW0]
      clear hW0
      obtain ⟨p0, p1, p2⟩ := P.out W0 (HX0.out.block b HBS.out.1 (fun e => HBS.out.2 (by cases e; rfl)))
      go_quiet (fail)
      obtain ⟨W1, hW1⟩ : ∃ W, W = W0.drewN nq := ⟨_, rfl⟩
      have m1 : W1.cell? ⟨g, 1, none⟩ = some (.int .i64 (k : Int)) := by rw [hW1]; exact d1
      have mf : W1.frozen? ⟨g, 1, none⟩ = false := by rw [hW1]; simp [World.frozen?, World.drewN, HG0.out]
      have hr1 : ResE w.heap.size W1 := by rw [hW1]; exact HR0.out.drewN nq
      have hx1 : Ex g w W1 := by rw [hW1]; exact HX0.out.drewN nq
      have hg1 : W1.heap[g]? = some (.cells #[.slice (some ⟨b, off, none⟩) l.length c, .int .i64 (k : Int)] T (0, 0)) := by rw [hW1]; exact HG0.out
      rw [← hW1]
      clear hW1 d0 d1 p0 p1 p2
      go_upto_region 4 with fail
      obtain ⟨W4, hW4⟩ : ∃ W, W = W1.setCell ⟨g, 1, none⟩ (.int .i64 ((k : Int) + 1)) := ⟨_, rfl⟩
      have hr4 : ResE w.heap.size W4 := by rw [hW4]; exact (Below.heap_setCell W1 ⟨g, 1, none⟩ _ w.heap.size (fun e => hgne e.symm)).trans hr1
      have hx4 : Ex g w W4 := by rw [hW4]; exact hx1.trans (Ex.set g 1 _ _)
      have hg4 : W4.heap[g]? = some (.cells #[.slice (some ⟨b, off, none⟩) l.length c, .int .i64 ((k + 1 : Nat) : Int)] T (0, 0)) := by rw [hW4]; exact deck_step hg1
      have d0 : W4.cell? ⟨g, 0, none⟩ = some (.slice (some ⟨b, off, none⟩) l.length c) := by simp [World.cell?, hg4]
      have d1 : W4.cell? ⟨g, 1, none⟩ = some (.int .i64 ((k : Int) + 1)) := by simp [World.cell?, hg4]
      obtain ⟨p0, p1, p2⟩ := P.out W4 (hx4.block b HBS.out.1 (fun e => HBS.out.2 (by cases e; rfl)))
      rw [← hW4]
      clear hW4 m1 mf hr1 hx1 hg1
      have HR4 := hide hr4
      have HX4 := hide hx4
      have HG4 := hide hg4
      obtain ⟨r0, r1, r2, f0, f1, f2⟩ := hr4.facts
      clear hr4 hx4 hg4
      go_region
      all_goals
        go_wp2_with fail
        obtain ⟨q0, q1, q2⟩ := HR4.out.store (.int .i64 (at_ : Int)) (.string x1) (.string x2)
        have hxz := ((Ex.setNew (j := 0) HX4.out (Nat.le_refl w.heap.size) (.int .i64 (at_ : Int))).setNew (j := 1) (Nat.le_refl w.heap.size) (.string x1)).setNew (j := 2) (Nat.le_refl w.heap.size) (.string x2)
        have hgz := (Below.heap_setCell ((W4.setCell ⟨w.heap.size, 0, none⟩ (.int .i64 (at_ : Int))).setCell ⟨w.heap.size, 1, none⟩ (.string x1)) ⟨w.heap.size, 2, none⟩ (.string x2) g hgne).trans ((Below.heap_setCell (W4.setCell ⟨w.heap.size, 0, none⟩ (.int .i64 (at_ : Int))) ⟨w.heap.size, 1, none⟩ (.string x1) g hgne).trans ((Below.heap_setCell W4 ⟨w.heap.size, 0, none⟩ (.int .i64 (at_ : Int)) g hgne).trans HG4.out))
        obtain ⟨W3, hW3⟩ : ∃ W3, W3 = ((W4.setCell ⟨w.heap.size, 0, none⟩ (.int .i64 (at_ : Int))).setCell ⟨w.heap.size, 1, none⟩ (.string x1)).setCell ⟨w.heap.size, 2, none⟩ (.string x2) := ⟨_, rfl⟩
        rw [← hW3] at q0 q1 q2 hxz hgz ⊢
        have hfz : FAt W3.drew g (l.drop (k + 1)) := FAt.mk' (W := W3.drew) (k := (k + 1)) HSL.out hxz.drew hgz (by omega)
        have q0' : W3.drew.cell? ⟨w.heap.size, 0, none⟩ = some (.int .i64 (at_ : Int)) := q0
        have q1' : W3.drew.cell? ⟨w.heap.size, 1, none⟩ = some (.string x1) := q1
        have q2' : W3.drew.cell? ⟨w.heap.size, 2, none⟩ = some (.string x2) := q2
        exact bodyPost_ret (v := .tuple #[.agg #[(.int .i64 (at_ : Int)), (.string x1), (.string x2)], .bool true]) (by simp [results, Tryz.results88, go_sem, q0', q1', q2']) rfl ⟨by rw [HN.out]; rw [mayR, HV.out], by rw [HN.out]; rw [← HRR.out] at hfz; exact hfz, hxz.drew⟩
    · have HN := hide (show mayF ((at_, ac, ar) :: r) t = (none, (at_, ac, ar) :: r) by rw [mayF, if_neg hbad])
      have hb3 : ((at_ : Int) != t) = true := by simpa using hbad
      clear hbad
      go_enter Tryz.func88, Tryz.ntmps88
      go_upto_region 1 with fail
      rw [← hW0]
      clear hW0
      obtain ⟨p0, p1, p2⟩ := P.out W0 (HX0.out.block b HBS.out.1 (fun e => HBS.out.2 (by cases e; rfl)))
      go_quiet (fail)
      obtain ⟨W1, hW1⟩ : ∃ W, W = W0.drewN nq := ⟨_, rfl⟩
      have hr1 : ResE w.heap.size W1 := by rw [hW1]; exact HR0.out.drewN nq
      have hx1 : Ex g w W1 := by rw [hW1]; exact HX0.out.drewN nq
      have hg1 : W1.heap[g]? = some (.cells #[.slice (some ⟨b, off, none⟩) l.length c, .int .i64 (k : Int)] T (0, 0)) := by rw [hW1]; exact HG0.out
      rw [← hW1]
      clear hW1 d0 d1 p0 p1 p2
      obtain ⟨r0, r1, r2, f0, f1, f2⟩ := hr1.facts
      go_wp2_with fail
      obtain ⟨q0, q1, q2⟩ := hr1.store (.int .i64 0) (.string ⟨#[]⟩) (.string ⟨#[]⟩)
      have hxz := ((Ex.setNew (j := 0) hx1 (Nat.le_refl w.heap.size) (.int .i64 0)).setNew (j := 1) (Nat.le_refl w.heap.size) (.string ⟨#[]⟩)).setNew (j := 2) (Nat.le_refl w.heap.size) (.string ⟨#[]⟩)
      have hgz := (Below.heap_setCell ((W1.setCell ⟨w.heap.size, 0, none⟩ (.int .i64 0)).setCell ⟨w.heap.size, 1, none⟩ (.string ⟨#[]⟩)) ⟨w.heap.size, 2, none⟩ (.string ⟨#[]⟩) g hgne).trans ((Below.heap_setCell (W1.setCell ⟨w.heap.size, 0, none⟩ (.int .i64 0)) ⟨w.heap.size, 1, none⟩ (.string ⟨#[]⟩) g hgne).trans ((Below.heap_setCell W1 ⟨w.heap.size, 0, none⟩ (.int .i64 0) g hgne).trans hg1))
      obtain ⟨W3, hW3⟩ : ∃ W3, W3 = ((W1.setCell ⟨w.heap.size, 0, none⟩ (.int .i64 0)).setCell ⟨w.heap.size, 1, none⟩ (.string ⟨#[]⟩)).setCell ⟨w.heap.size, 2, none⟩ (.string ⟨#[]⟩) := ⟨_, rfl⟩
      rw [← hW3] at q0 q1 q2 hxz hgz ⊢
      have hfz := FAt.mk' (k := k) HSL.out hxz hgz (by omega)
      exact bodyPost_ret (v := .tuple #[.agg #[(.int .i64 0), (.string ⟨#[]⟩), (.string ⟨#[]⟩)], .bool false]) (by simp [results, Tryz.results88, go_sem, q0, q1, q2]) rfl ⟨by rw [HN.out]; rfl, by rw [HN.out]; rw [← HRK.out] at hfz; exact hfz, hxz⟩
def openF (a t : Int) (c : List UInt8) : Except Int (List Elt) := if a ≠ t then .error 5 else listF c
def openRes : Except Int (List Elt) → World → Ending → World → Prop
 | .error k, _, e, _ => e = .returned (.tuple #[.agg #[.slice none 0 0, .int .i64 0], .int .i64 k])
 | .ok l, w, e, w' => ∃ A c, e = .returned (.tuple #[.agg #[.slice A l.length c, .int .i64 0], .int .i64 0]) ∧ Sl RElt 3 w' (Btw w.heap.size w'.heap.size) l [.slice A l.length c]
def OpenPost (w : World) (o : Except Int (List Elt)) (e : Ending) (w' : World) : Prop := Below w.heap.size w w' ∧ openRes o w e w'
def ResF (g : Nat) (W : World) : Prop := W.heap[g]? = some (.cells #[.slice none 0 0, .int .i64 0] 120 (0, 0))
theorem ResF.facts {g : Nat} {W : World} (h : ResF g W) : W.cell? ⟨g, 0, none⟩ = some (.slice none 0 0) ∧ W.cell? ⟨g, 1, none⟩ = some (.int .i64 0) ∧ W.frozen? ⟨g, 0, none⟩ = false ∧ W.frozen? ⟨g, 1, none⟩ = false := by
 unfold ResF at h
 simp [World.cell?, World.frozen?, h]
theorem ResF.lt {g : Nat} {W : World} (h : ResF g W) : g < W.heap.size := (Array.getElem?_eq_some_iff.1 h).1
theorem ResF.below {g : Nat} {W W' : World} (h : ResF g W) (hb : Below W.heap.size W W') : ResF g W' := (hb.block g h.lt).trans h
theorem ResF.store {g : Nat} {W : World} (h : ResF g W) (a b : Value) :
  ((W.setCell ⟨g, 0, none⟩ a).setCell ⟨g, 1, none⟩ b).cell? ⟨g, 0, none⟩ = some a ∧ ((W.setCell ⟨g, 0, none⟩ a).setCell ⟨g, 1, none⟩ b).cell? ⟨g, 1, none⟩ = some b := by
 unfold ResF at h
 simp [World.cell?, World.setCell, Array.getElem?_modify, h]
set_option maxRecDepth 100000 in
set_option maxHeartbeats 4000000 in
theorem Open_any (a t : Int) (c raw : ByteArray) (hs : c.size ≤ 1000000000) (w : World) :
    Calls Tryz.prog 87 #[.agg #[.int .i64 a, .string c, .string raw], .int .i64 t] w (OpenPost w (openF a t c.data.toList)) := by
  obtain ⟨o, ho⟩ : ∃ o, openF a t c.data.toList = o := ⟨_, rfl⟩
  rw [ho]
  have HO := hide ho
  clear ho
  obtain ⟨W0, hW0⟩ : ∃ W, W = (w.alloc (.cells #[.int .i64 a, .string c, .string raw] 72)).alloc (.cells #[.slice none 0 0, .int .i64 0] 120) := ⟨_, rfl⟩
  have hr0 : ResF (w.heap.size + 1) W0 := by
    rw [hW0]
    have := heap_alloc_new (w.alloc (.cells #[.int .i64 a, .string c, .string raw] 72)) (.cells #[.slice none 0 0, .int .i64 0] 120)
    rw [World.size_alloc] at this
    exact this
  have hb0 : Below w.heap.size w W0 := by rw [hW0]; exact ((Below.refl _ _).alloc (Nat.le_refl _) _).alloc (by simp) _
  have hE : (w.alloc (.cells #[.int .i64 a, .string c, .string raw] 72)).heap[w.heap.size]? = some (.cells #[.int .i64 a, .string c, .string raw] 72 (0, 0)) := heap_alloc_new w _
  have hE0 : W0.heap[w.heap.size]? = some (.cells #[.int .i64 a, .string c, .string raw] 72 (0, 0)) := by rw [hW0]; exact (Below.heap_alloc _ _ _ (by simp)).trans hE
  have n0 : W0.cell? ⟨w.heap.size, 0, none⟩ = some (.int .i64 a) := by simp [World.cell?, hE0]
  have n1 : W0.cell? ⟨w.heap.size, 1, none⟩ = some (.string c) := by simp [World.cell?, hE0]
  have hz0 : w.heap.size ≤ W0.heap.size := hb0.size
  have HR0 := hide hr0
  have HB0 := hide hb0
  clear hr0 hb0 hE hE0
  by_cases hat : a = t
  · have HX := hide (show o = listF c.data.toList by rw [← HO.out, openF, if_neg (by simpa using hat)])
    have ht : (a != t) = false := by simpa using hat
    clear hat
    go_enter Tryz.func87, Tryz.ntmps87
    go_upto_region 1 with fail
    rw [← hW0]
    clear hW0
    go_wp2_with fail
    refine (rList_any c hs _).mono ?_
    rintro e w1 ⟨hb1, hres⟩
    rw [← HX.out] at hres
    have hr1 := HR0.out.below hb1
    have hb01 := HB0.out.trans (hb1.mono hz0)
    have hbs := hb1.size
    cases o with
    | error k =>
      obtain rfl : e = _ := hres
      obtain ⟨r0, r1, f0, f1⟩ := hr1.facts
      clear hb1 n0 n1
      go_wp2_with fail
      obtain ⟨q0, q1⟩ := hr1.store (.slice none 0 0) (.int .i64 0)
      have hbz := (hb01.setCell (p := ⟨w.heap.size + 1, 0, none⟩) (by show w.heap.size ≤ w.heap.size + 1; omega) (.slice none 0 0)).setCell (p := ⟨w.heap.size + 1, 1, none⟩) (by show w.heap.size ≤ w.heap.size + 1; omega) (.int .i64 0)
      obtain ⟨W3, hW3⟩ : ∃ W3, W3 = (w1.setCell ⟨w.heap.size + 1, 0, none⟩ (.slice none 0 0)).setCell ⟨w.heap.size + 1, 1, none⟩ (.int .i64 0) := ⟨_, rfl⟩
      have hres : openRes (.error k) w (.returned (.tuple #[.agg #[.slice none 0 0, .int .i64 0], .int .i64 k])) ((w1.setCell ⟨w.heap.size + 1, 0, none⟩ (.slice none 0 0)).setCell ⟨w.heap.size + 1, 1, none⟩ (.int .i64 0)) := rfl
      rw [← hW3] at q0 q1 hbz hres ⊢
      exact bodyPost_ret (v := .tuple #[.agg #[(.slice none 0 0), (.int .i64 0)], .int .i64 k]) (by simp [results, Tryz.results87, go_sem, q0, q1]) rfl ⟨hbz, hres⟩
    | ok l =>
      obtain ⟨A, cp, rfl, hsl⟩ := hres
      obtain ⟨r0, r1, f0, f1⟩ := hr1.facts
      have hg1 := HR0.out.lt
      have HSL := hide hsl
      clear hb1 n0 n1 hsl
      go_wp2_with fail
      obtain ⟨q0, q1⟩ := hr1.store (.slice A l.length cp) (.int .i64 0)
      have hbz := (hb01.setCell (p := ⟨w.heap.size + 1, 0, none⟩) (by show w.heap.size ≤ w.heap.size + 1; omega) (.slice A l.length cp)).setCell (p := ⟨w.heap.size + 1, 1, none⟩) (by show w.heap.size ≤ w.heap.size + 1; omega) (.int .i64 0)
      obtain ⟨W3, hW3⟩ : ∃ W3, W3 = (w1.setCell ⟨w.heap.size + 1, 0, none⟩ (.slice A l.length cp)).setCell ⟨w.heap.size + 1, 1, none⟩ (.int .i64 0) := ⟨_, rfl⟩
      have hres : openRes (.ok l) w (.returned (.tuple #[.agg #[.slice A l.length cp, .int .i64 0], .int .i64 0])) ((w1.setCell ⟨w.heap.size + 1, 0, none⟩ (.slice A l.length cp)).setCell ⟨w.heap.size + 1, 1, none⟩ (.int .i64 0)) := ⟨A, cp, rfl, (Sl.ok RElt.ok).mono HSL.out (fun j hj => (Below.heap_setCell _ _ _ j (by have := hj.1; show j ≠ w.heap.size + 1; omega)).trans (Below.heap_setCell _ _ _ j (by have := hj.1; show j ≠ w.heap.size + 1; omega))) (fun j hj => ⟨Nat.le_trans hz0 hj.1, by simpa using hj.2⟩)⟩
      rw [← hW3] at q0 q1 hbz hres ⊢
      exact bodyPost_ret (v := .tuple #[.agg #[(.slice A l.length cp), (.int .i64 0)], .int .i64 0]) (by simp [results, Tryz.results87, go_sem, q0, q1]) rfl ⟨hbz, hres⟩
  · have HX := hide (show o = .error 5 by rw [← HO.out, openF, if_pos hat])
    have ht : (a != t) = true := by simpa using hat
    obtain rfl := HX.out
    clear hat
    obtain ⟨r0, r1, f0, f1⟩ := HR0.out.facts
    go_enter Tryz.func87, Tryz.ntmps87
    go_upto_region 1 with fail
    rw [← hW0]
    clear hW0
    go_wp2_with fail
    obtain ⟨q0, q1⟩ := HR0.out.store (.slice none 0 0) (.int .i64 0)
    have hbz := (HB0.out.setCell (p := ⟨w.heap.size + 1, 0, none⟩) (by show w.heap.size ≤ w.heap.size + 1; omega) (.slice none 0 0)).setCell (p := ⟨w.heap.size + 1, 1, none⟩) (by show w.heap.size ≤ w.heap.size + 1; omega) (.int .i64 0)
    obtain ⟨W3, hW3⟩ : ∃ W3, W3 = (W0.setCell ⟨w.heap.size + 1, 0, none⟩ (.slice none 0 0)).setCell ⟨w.heap.size + 1, 1, none⟩ (.int .i64 0) := ⟨_, rfl⟩
    have hres : openRes (.error 5) w (.returned (.tuple #[.agg #[.slice none 0 0, .int .i64 0], .int .i64 5])) ((W0.setCell ⟨w.heap.size + 1, 0, none⟩ (.slice none 0 0)).setCell ⟨w.heap.size + 1, 1, none⟩ (.int .i64 0)) := rfl
    rw [← hW3] at q0 q1 hbz hres ⊢
    exact bodyPost_ret (v := .tuple #[.agg #[(.slice none 0 0), (.int .i64 0)], .int .i64 5]) (by simp [results, Tryz.results87, go_sem, q0, q1]) rfl ⟨hbz, hres⟩
theorem FAt.new {w w1 W : World} {l : List Elt} {A : Option Addr} {c : Nat} {T : TypeId} (h : Sl RElt 3 w1 (Btw w.heap.size w1.heap.size) l [.slice A l.length c]) (hW : W = w1.alloc (.cells #[.slice A l.length c, .int .i64 0] T)) : FAt W w1.heap.size l := by
 subst hW
 exact ⟨l, A, c, 0, T, heap_alloc_new w1 _, Nat.zero_le _, rfl, (Sl.ok RElt.ok).mono h (fun j hj => Below.heap_alloc _ _ j hj.2) (fun j hj => ⟨by have := hj.2; simp; omega, by have := hj.2; omega⟩)⟩
end Go.Proofs.YtahamclodagihaaGreatDoor
namespace Go.Proofs.YtahamclodagihaaGreatDoor
open Go.RowKit
theorem wrap_one (t : Nat) (ht : t < 256) (ht31 : t % 32 ≠ 31) (x : ByteArray) (hx : x.size ≤ 1000000) (r : List UInt8 × Int) (hr : wrapF t [x.data.toList] = r) (w : World) :
  Calls Tryz.prog 55 #[.int .i64 (t : Int), .slice (some ⟨w.heap.size, 0, none⟩) 1 1] (w.alloc (.cells #[.string x] 9)) fun e w' => e = .returned (wrapR r) ∧ Below w.heap.size w w' := by
 have hsl := sl_pu (f := strC) (size := 1) (fun _ => rfl) w #[.string x] 9 [x.data.toList] rfl (by simp [maxLen])
 refine (hr ▸ Wrap_any t ht ht31 [x.data.toList] _ 1 (by simp) (fun y hy => by simp at hy; subst hy; rw [size_string]; omega) _ hsl).mono ?_
 rintro e w' ⟨he, hb⟩
 exact ⟨he, ((Below.refl _ _).alloc (Nat.le_refl _) _).trans (hb.mono (by simp))⟩
theorem wrapF_one {t : Nat} {x : ByteArray} (h : x.size ≤ 131072) : wrapF t [x.data.toList] = (wrapW t x.data.toList, 0) := by
 rw [wrapF]
 simp only [List.flatten_cons, List.flatten_nil, List.append_nil, size_string]
 rw [if_neg (by omega)]
theorem idW_len (s : List UInt8) : (idW s).length ≤ 1005 := by
 rw [idW, wrapW_len]
 have := encP_len s
 have := lenB_le ((encP s).getD []).length
 omega
theorem wrap_two (t : Nat) (ht : t < 256) (ht31 : t % 32 ≠ 31) (x y : ByteArray) (hx : x.size ≤ 1000000) (hy : y.size ≤ 1000000) (r : List UInt8 × Int) (hr : wrapF t [x.data.toList, y.data.toList] = r) (w : World) :
  Calls Tryz.prog 55 #[.int .i64 (t : Int), .slice (some ⟨w.heap.size, 0, none⟩) 2 2] (w.alloc (.cells #[.string x, .string y] 9)) fun e w' => e = .returned (wrapR r) ∧ Below w.heap.size w w' := by
 have hsl := sl_pu (f := strC) (size := 1) (fun _ => rfl) w #[.string x, .string y] 9 [x.data.toList, y.data.toList] rfl (by simp [maxLen])
 refine (hr ▸ Wrap_any t ht ht31 [x.data.toList, y.data.toList] _ 2 (by simp) (fun z hz => by simp at hz; rcases hz with rfl | rfl <;> (rw [size_string]; omega)) _ hsl).mono ?_
 rintro e w' ⟨he, hb⟩
 exact ⟨he, ((Below.refl _ _).alloc (Nat.le_refl _) _).trans (hb.mono (by simp))⟩
theorem wrapF_two {t : Nat} {x y : ByteArray} (h : x.size + y.size ≤ 131072) : wrapF t [x.data.toList, y.data.toList] = (wrapW t (x.data.toList ++ y.data.toList), 0) := by
 rw [wrapF]
 simp only [List.flatten_cons, List.flatten_nil, List.append_nil, List.length_append, size_string]
 rw [if_neg (by omega)]
end Go.Proofs.YtahamclodagihaaGreatDoor
