/- The reference's May, where the fields lie below a bound. -/
import Derived.Test.YtahamclodagihaaGreatDoorRGTlvJ
import Derived.Test.YtahamclodagihaaGreatDoorRSbA
import Derived.Test.YtahamclodagihaaGreatDoorRGdB
import Derived.Test.YtahamclodagihaaGreatDoorRGGlA
import Derived.Test.YtahamclodagihaaGreatDoorRSbE
namespace Go.Proofs.YtahamclodagihaaGreatDoor
open Go.RowKit
def FAtB (w : World) (g B : Nat) (rest : List Elt) : Prop :=
 ∃ (l : List Elt) (A : Option Addr) (c k : Nat) (T : TypeId), w.heap[g]? = some (.cells #[.slice A l.length c, .int .i64 (k : Int)] T (0, 0)) ∧ k ≤ l.length ∧ rest = l.drop k ∧ B ≤ w.heap.size ∧ Sl RElt 3 w (Nd g B) l [.slice A l.length c]
theorem FAtB.fat {w : World} {g B : Nat} {rest : List Elt} (h : FAtB w g B rest) : FAt w g rest := by
 obtain ⟨l, A, c, k, T, h1, h2, h3, h4, h5⟩ := h
 exact ⟨l, A, c, k, T, h1, h2, h3, (Sl.ok RElt.ok).mono h5 (fun _ _ => rfl) (fun j hj => ⟨by have := hj.1; omega, hj.2⟩)⟩
theorem FAtB.mk' {w W : World} {g B k : Nat} {l : List Elt} {A : Option Addr} {c : Nat} {T : TypeId} (hB : B ≤ w.heap.size) (hsl : Sl RElt 3 w (Nd g B) l [.slice A l.length c]) (hx : Ex g w W)
  (hg : W.heap[g]? = some (.cells #[.slice A l.length c, .int .i64 (k : Int)] T (0, 0))) (hk : k ≤ l.length) : FAtB W g B (l.drop k) :=
 ⟨l, A, c, k, T, hg, hk, rfl, Nat.le_trans hB hx.size, (Sl.ok RElt.ok).mono hsl (fun j hj => hx.keeps j ⟨by have := hj.1; omega, hj.2⟩) (fun _ hj => hj)⟩
theorem FAtB.new {w w1 W : World} {l : List Elt} {A : Option Addr} {c : Nat} {T : TypeId} (h : Sl RElt 3 w1 (Btw w.heap.size w1.heap.size) l [.slice A l.length c]) (hW : W = w1.alloc (.cells #[.slice A l.length c, .int .i64 0] T)) : FAtB W w1.heap.size w1.heap.size l := by
 subst hW
 exact ⟨l, A, c, 0, T, heap_alloc_new w1 _, Nat.zero_le _, rfl, by simp, (Sl.ok RElt.ok).mono h (fun j hj => Below.heap_alloc _ _ j hj.2) (fun j hj => ⟨hj.2, by have := hj.2; omega⟩)⟩
theorem FAtB.grow {w w' : World} {g B : Nat} {rest : List Elt} (h : FAtB w g B rest) (hb : Below w.heap.size w w') : FAtB w' g B rest := by
 have hlt := h.fat.lt
 obtain ⟨l, A, c, k, T, h1, h2, h3, h4, h5⟩ := h
 exact ⟨l, A, c, k, T, (hb.block g hlt).trans h1, h2, h3, Nat.le_trans h4 hb.size, (Sl.ok RElt.ok).mono h5 (fun j hj => hb.block j (by have := hj.1; omega)) (fun _ hj => hj)⟩
theorem FAtB.set {w : World} {g B k j : Nat} {rest : List Elt} (h : FAtB w g B rest) (hg : g ≠ k) (hB : B ≤ k) (u : Value) : FAtB (w.setCell ⟨k, j, none⟩ u) g B rest := by
 obtain ⟨l, A, c, n, T, h1, h2, h3, h4, h5⟩ := h
 exact ⟨l, A, c, n, T, (Below.heap_setCell w ⟨k, j, none⟩ u g hg).trans h1, h2, h3, by simpa using h4, (Sl.ok RElt.ok).mono h5 (fun i hi => Below.heap_setCell w ⟨k, j, none⟩ u i (by show i ≠ k; have := hi.1; omega)) (fun _ hi => hi)⟩
set_option maxRecDepth 100000 in
set_option maxHeartbeats 4000000 in
theorem MayB_any (g B : Nat) (rest : List Elt) (t : Int) (w : World) (h : FAtB w g B rest) :
    Calls Tryz.prog 88 #[.pointer (some ⟨g, 0, none⟩), .int .i64 t] w fun e w' => e = .returned (mayR (mayF rest t).1) ∧ FAtB w' g B (mayF rest t).2 ∧ Ex g w w' := by
  have hglt := h.fat.lt
  obtain ⟨l, A, c, k, T, hh, hk, hr, hBw, hslB⟩ := h
  have hsl : Sl RElt 3 w (Nd g w.heap.size) l [.slice A l.length c] := (Sl.ok RElt.ok).mono hslB (fun _ _ => rfl) (fun j hj => ⟨by have := hj.1; omega, hj.2⟩)
  have HSLB := hide (And.intro hBw hslB)
  obtain ⟨-, hlc, hcm⟩ := hsl.len_
  unfold maxLen at hcm
  have HSL := hide hsl
  have hgne : g ≠ w.heap.size := by omega
  clear hsl hslB hBw
  obtain ⟨W0, hW0⟩ : ∃ W, W = w.alloc (.cells #[.int .i64 0, .string ⟨#[]⟩, .string ⟨#[]⟩] 72) := ⟨_, rfl⟩
  have hr0 : ResE w.heap.size W0 := by rw [hW0]; exact resE_new w
  have hx0 : Ex g w W0 := by rw [hW0]; exact Ex.of_below ((Below.refl _ _).alloc (Nat.le_refl _) _)
  have hg0 : W0.heap[g]? = some (.cells #[.slice A l.length c, .int .i64 (k : Int)] T (0, 0)) := by rw [hW0]; exact (Below.heap_alloc _ _ _ hglt).trans hh
  have hz0 : w.heap.size < W0.heap.size := by rw [hW0]; simp
  have d0 : W0.cell? ⟨g, 0, none⟩ = some (.slice A l.length c) := by simp [World.cell?, hg0]
  have d1 : W0.cell? ⟨g, 1, none⟩ = some (.int .i64 (k : Int)) := by simp [World.cell?, hg0]
  have HR0 := hide hr0
  have HX0 := hide hx0
  have HG0 := hide hg0
  clear hh hr0 hx0 hg0
  match rest, hr with
  | [], hr =>
    have hkl : k = l.length := by
      rcases Nat.lt_or_ge k l.length with h1 | h1
      · rw [List.drop_eq_getElem_cons h1] at hr; cases hr
      · omega
    have hge : (l.length : Int) ≤ (k : Int) := by omega
    have HRR := hide hr.symm
    have HN := hide (show mayF [] t = (none, []) from rfl)
    clear hr hkl
    go_enter Tryz.func88, Tryz.ntmps88
    go_upto_region 1 with fail
    rw [← hW0]
    clear hW0
    go_quiet (fail)
    obtain ⟨W1, hW1⟩ : ∃ W, W = W0.drewN nq := ⟨_, rfl⟩
    have hr1 : ResE w.heap.size W1 := by rw [hW1]; exact HR0.out.drewN nq
    have hx1 : Ex g w W1 := by rw [hW1]; exact HX0.out.drewN nq
    have hg1 : W1.heap[g]? = some (.cells #[.slice A l.length c, .int .i64 (k : Int)] T (0, 0)) := by rw [hW1]; exact HG0.out
    rw [← hW1]
    clear hW1 d0 d1
    obtain ⟨r0, r1, r2, f0, f1, f2⟩ := hr1.facts
    go_wp2_with fail
    obtain ⟨q0, q1, q2⟩ := hr1.store (.int .i64 0) (.string ⟨#[]⟩) (.string ⟨#[]⟩)
    have hxz := ((Ex.setNew (j := 0) hx1 (Nat.le_refl w.heap.size) (.int .i64 0)).setNew (j := 1) (Nat.le_refl w.heap.size) (.string ⟨#[]⟩)).setNew (j := 2) (Nat.le_refl w.heap.size) (.string ⟨#[]⟩)
    have hgz := (Below.heap_setCell ((W1.setCell ⟨w.heap.size, 0, none⟩ (.int .i64 0)).setCell ⟨w.heap.size, 1, none⟩ (.string ⟨#[]⟩)) ⟨w.heap.size, 2, none⟩ (.string ⟨#[]⟩) g hgne).trans ((Below.heap_setCell (W1.setCell ⟨w.heap.size, 0, none⟩ (.int .i64 0)) ⟨w.heap.size, 1, none⟩ (.string ⟨#[]⟩) g hgne).trans ((Below.heap_setCell W1 ⟨w.heap.size, 0, none⟩ (.int .i64 0) g hgne).trans hg1))
    obtain ⟨W3, hW3⟩ : ∃ W3, W3 = ((W1.setCell ⟨w.heap.size, 0, none⟩ (.int .i64 0)).setCell ⟨w.heap.size, 1, none⟩ (.string ⟨#[]⟩)).setCell ⟨w.heap.size, 2, none⟩ (.string ⟨#[]⟩) := ⟨_, rfl⟩
    rw [← hW3] at q0 q1 q2 hxz hgz ⊢
    have hfz := FAtB.mk' (k := k) HSLB.out.1 HSLB.out.2 hxz hgz (by omega)
    exact bodyPost_ret (v := .tuple #[.agg #[(.int .i64 0), (.string ⟨#[]⟩), (.string ⟨#[]⟩)], .bool false]) (by simp [results, Tryz.results88, go_sem, q0, q1, q2]) rfl ⟨by rw [HN.out]; rfl, by rw [HN.out]; rw [HRR.out] at hfz; exact hfz, hxz⟩
  | a :: r, hr =>
    obtain ⟨hkl, hak, hrr⟩ := drop_cons hr
    have hlt : ¬ (l.length : Int) ≤ (k : Int) := by omega
    have hlti : (k : Int) < (l.length : Int) := by omega
    have hdec : (decide ((l.length : Int) ≤ (k : Int))) = false := decide_eq_false hlt
    obtain ⟨b, off, hA, hbS, e0, e1, e2⟩ := HSL.out.eltAt hkl
    rw [hak] at e0 e1 e2
    obtain ⟨at_, ac, ar⟩ := a
    simp only at e0 e1 e2
    subst hA
    obtain ⟨x1, hx1⟩ : ∃ x : ByteArray, x = ⟨ac.toArray⟩ := ⟨_, rfl⟩
    obtain ⟨x2, hx2⟩ : ∃ x : ByteArray, x = ⟨ar.toArray⟩ := ⟨_, rfl⟩
    rw [← hx1] at e1
    rw [← hx2] at e2
    have P := hide (fun (W : World) (hW : W.heap[b]? = w.heap[b]?) => (show W.cell? ⟨b, off + k * 3, none⟩ = some (.int .i64 (at_ : Int)) ∧ W.cell? ⟨b, off + k * 3 + 1, none⟩ = some (.string x1) ∧ W.cell? ⟨b, off + k * 3 + 2, none⟩ = some (.string x2) from
      ⟨(World.cell?_of_block (w := w) (a := ⟨b, off + k * 3, none⟩) hW).trans e0, (World.cell?_of_block (w := w) (a := ⟨b, off + k * 3 + 1, none⟩) hW).trans e1, (World.cell?_of_block (w := w) (a := ⟨b, off + k * 3 + 2, none⟩) hW).trans e2⟩))
    have HV := hide (show eltV (at_, ac, ar) = .agg #[.int .i64 (at_ : Int), .string x1, .string x2] by rw [eltV, hx1, hx2])
    have HRK := hide hr
    have HRR := hide hrr
    have HBS := hide hbS
    clear e0 e1 e2 hx1 hx2 hr hrr hak hbS
    by_cases hbad : (at_ : Int) = t
    · have HN := hide (show mayF ((at_, ac, ar) :: r) t = (some (at_, ac, ar), r) by rw [mayF, if_pos hbad])
      have hb3 : ((at_ : Int) != t) = false := by simpa using hbad
      have hw : IntKind.i64.wrap ((k : Int) + 1) = (k : Int) + 1 := IntWalk.i64_in _ (by omega)
      have hw1 : IntKind.i64.wrap ((k : Int) + 1 - 1) = (k : Int) := by rw [IntWalk.i64_in _ (by omega)]; omega
      clear hbad
      go_enter Tryz.func88, Tryz.ntmps88
      go_upto_region 1 with fail
      rw [← hW0]
      clear hW0
      obtain ⟨p0, p1, p2⟩ := P.out W0 (HX0.out.block b HBS.out.1 (fun e => HBS.out.2 (by cases e; rfl)))
      go_quiet (fail)
      obtain ⟨W1, hW1⟩ : ∃ W, W = W0.drewN nq := ⟨_, rfl⟩
      have m1 : W1.cell? ⟨g, 1, none⟩ = some (.int .i64 (k : Int)) := by rw [hW1]; exact d1
      have mf : W1.frozen? ⟨g, 1, none⟩ = false := by rw [hW1]; simp [World.frozen?, World.drewN, HG0.out]
      have hr1 : ResE w.heap.size W1 := by rw [hW1]; exact HR0.out.drewN nq
      have hx1 : Ex g w W1 := by rw [hW1]; exact HX0.out.drewN nq
      have hg1 : W1.heap[g]? = some (.cells #[.slice (some ⟨b, off, none⟩) l.length c, .int .i64 (k : Int)] T (0, 0)) := by rw [hW1]; exact HG0.out
      rw [← hW1]
      clear hW1 d0 d1 p0 p1 p2
      go_upto_region 4 with fail
      obtain ⟨W4, hW4⟩ : ∃ W, W = W1.setCell ⟨g, 1, none⟩ (.int .i64 ((k : Int) + 1)) := ⟨_, rfl⟩
      have hr4 : ResE w.heap.size W4 := by rw [hW4]; exact (Below.heap_setCell W1 ⟨g, 1, none⟩ _ w.heap.size (fun e => hgne e.symm)).trans hr1
      have hx4 : Ex g w W4 := by rw [hW4]; exact hx1.trans (Ex.set g 1 _ _)
      have hg4 : W4.heap[g]? = some (.cells #[.slice (some ⟨b, off, none⟩) l.length c, .int .i64 ((k + 1 : Nat) : Int)] T (0, 0)) := by rw [hW4]; exact deck_step hg1
      have d0 : W4.cell? ⟨g, 0, none⟩ = some (.slice (some ⟨b, off, none⟩) l.length c) := by simp [World.cell?, hg4]
      have d1 : W4.cell? ⟨g, 1, none⟩ = some (.int .i64 ((k : Int) + 1)) := by simp [World.cell?, hg4]
      obtain ⟨p0, p1, p2⟩ := P.out W4 (hx4.block b HBS.out.1 (fun e => HBS.out.2 (by cases e; rfl)))
      rw [← hW4]
      clear hW4 m1 mf hr1 hx1 hg1
      have HR4 := hide hr4
      have HX4 := hide hx4
      have HG4 := hide hg4
      obtain ⟨r0, r1, r2, f0, f1, f2⟩ := hr4.facts
      clear hr4 hx4 hg4
      go_region
      all_goals
        go_wp2_with fail
        obtain ⟨q0, q1, q2⟩ := HR4.out.store (.int .i64 (at_ : Int)) (.string x1) (.string x2)
        have hxz := ((Ex.setNew (j := 0) HX4.out (Nat.le_refl w.heap.size) (.int .i64 (at_ : Int))).setNew (j := 1) (Nat.le_refl w.heap.size) (.string x1)).setNew (j := 2) (Nat.le_refl w.heap.size) (.string x2)
        have hgz := (Below.heap_setCell ((W4.setCell ⟨w.heap.size, 0, none⟩ (.int .i64 (at_ : Int))).setCell ⟨w.heap.size, 1, none⟩ (.string x1)) ⟨w.heap.size, 2, none⟩ (.string x2) g hgne).trans ((Below.heap_setCell (W4.setCell ⟨w.heap.size, 0, none⟩ (.int .i64 (at_ : Int))) ⟨w.heap.size, 1, none⟩ (.string x1) g hgne).trans ((Below.heap_setCell W4 ⟨w.heap.size, 0, none⟩ (.int .i64 (at_ : Int)) g hgne).trans HG4.out))
        obtain ⟨W3, hW3⟩ : ∃ W3, W3 = ((W4.setCell ⟨w.heap.size, 0, none⟩ (.int .i64 (at_ : Int))).setCell ⟨w.heap.size, 1, none⟩ (.string x1)).setCell ⟨w.heap.size, 2, none⟩ (.string x2) := ⟨_, rfl⟩
        rw [← hW3] at q0 q1 q2 hxz hgz ⊢
        have hfz : FAtB W3.drew g B (l.drop (k + 1)) := FAtB.mk' (W := W3.drew) (k := (k + 1)) HSLB.out.1 HSLB.out.2 hxz.drew hgz (by omega)
        have q0' : W3.drew.cell? ⟨w.heap.size, 0, none⟩ = some (.int .i64 (at_ : Int)) := q0
        have q1' : W3.drew.cell? ⟨w.heap.size, 1, none⟩ = some (.string x1) := q1
        have q2' : W3.drew.cell? ⟨w.heap.size, 2, none⟩ = some (.string x2) := q2
        exact bodyPost_ret (v := .tuple #[.agg #[(.int .i64 (at_ : Int)), (.string x1), (.string x2)], .bool true]) (by simp [results, Tryz.results88, go_sem, q0', q1', q2']) rfl ⟨by rw [HN.out]; rw [mayR, HV.out], by rw [HN.out]; rw [← HRR.out] at hfz; exact hfz, hxz.drew⟩
    · have HN := hide (show mayF ((at_, ac, ar) :: r) t = (none, (at_, ac, ar) :: r) by rw [mayF, if_neg hbad])
      have hb3 : ((at_ : Int) != t) = true := by simpa using hbad
      clear hbad
      go_enter Tryz.func88, Tryz.ntmps88
      go_upto_region 1 with fail
      rw [← hW0]
      clear hW0
      obtain ⟨p0, p1, p2⟩ := P.out W0 (HX0.out.block b HBS.out.1 (fun e => HBS.out.2 (by cases e; rfl)))
      go_quiet (fail)
      obtain ⟨W1, hW1⟩ : ∃ W, W = W0.drewN nq := ⟨_, rfl⟩
      have hr1 : ResE w.heap.size W1 := by rw [hW1]; exact HR0.out.drewN nq
      have hx1 : Ex g w W1 := by rw [hW1]; exact HX0.out.drewN nq
      have hg1 : W1.heap[g]? = some (.cells #[.slice (some ⟨b, off, none⟩) l.length c, .int .i64 (k : Int)] T (0, 0)) := by rw [hW1]; exact HG0.out
      rw [← hW1]
      clear hW1 d0 d1 p0 p1 p2
      obtain ⟨r0, r1, r2, f0, f1, f2⟩ := hr1.facts
      go_wp2_with fail
      obtain ⟨q0, q1, q2⟩ := hr1.store (.int .i64 0) (.string ⟨#[]⟩) (.string ⟨#[]⟩)
      have hxz := ((Ex.setNew (j := 0) hx1 (Nat.le_refl w.heap.size) (.int .i64 0)).setNew (j := 1) (Nat.le_refl w.heap.size) (.string ⟨#[]⟩)).setNew (j := 2) (Nat.le_refl w.heap.size) (.string ⟨#[]⟩)
      have hgz := (Below.heap_setCell ((W1.setCell ⟨w.heap.size, 0, none⟩ (.int .i64 0)).setCell ⟨w.heap.size, 1, none⟩ (.string ⟨#[]⟩)) ⟨w.heap.size, 2, none⟩ (.string ⟨#[]⟩) g hgne).trans ((Below.heap_setCell (W1.setCell ⟨w.heap.size, 0, none⟩ (.int .i64 0)) ⟨w.heap.size, 1, none⟩ (.string ⟨#[]⟩) g hgne).trans ((Below.heap_setCell W1 ⟨w.heap.size, 0, none⟩ (.int .i64 0) g hgne).trans hg1))
      obtain ⟨W3, hW3⟩ : ∃ W3, W3 = ((W1.setCell ⟨w.heap.size, 0, none⟩ (.int .i64 0)).setCell ⟨w.heap.size, 1, none⟩ (.string ⟨#[]⟩)).setCell ⟨w.heap.size, 2, none⟩ (.string ⟨#[]⟩) := ⟨_, rfl⟩
      rw [← hW3] at q0 q1 q2 hxz hgz ⊢
      have hfz := FAtB.mk' (k := k) HSLB.out.1 HSLB.out.2 hxz hgz (by omega)
      exact bodyPost_ret (v := .tuple #[.agg #[(.int .i64 0), (.string ⟨#[]⟩), (.string ⟨#[]⟩)], .bool false]) (by simp [results, Tryz.results88, go_sem, q0, q1, q2]) rfl ⟨by rw [HN.out]; rfl, by rw [HN.out]; rw [← HRK.out] at hfz; exact hfz, hxz⟩
end Go.Proofs.YtahamclodagihaaGreatDoor
namespace Go.Proofs.YtahamclodagihaaGreatDoor
open Go.RowKit
def DecPPost (w : World) (p : Int × List Gen) (e : Ending) (w' : World) : Prop :=
 ∃ (A : Option Addr) (c : Nat), e = .returned (.tuple #[.slice A p.2.length c, .int .i64 p.1]) ∧ Sl RGen 3 w' (Btw w.heap.size w'.heap.size) p.2 [.slice A p.2.length c] ∧ Below w.heap.size w w' ∧ MedGs p.2
theorem DecPPost.err {w : World} {r : Except Int (List Gen)} {q : Int} {e : Ending} {w' : World} (hr : r = .error q) (he : e = .returned (.tuple #[.slice none 0 0, .int .i64 q])) (hb : Below w.heap.size w w') : DecPPost w (toGs r) e w' := by
 subst hr
 exact ⟨none, 0, he, Sl.nil _ _ _ _, hb, fun g hg => by cases hg⟩
theorem DecPPost.ok {w : World} {r : Except Int (List Gen)} {l : List Gen} {A : Option Addr} {c : Nat} {e : Ending} {w' : World} (hr : r = .ok l) (he : e = .returned (.tuple #[.slice A l.length c, .int .i64 0])) (hsl : Sl RGen 3 w' (Btw w.heap.size w'.heap.size) l [.slice A l.length c]) (hb : Below w.heap.size w w') (hm : MedGs l) : DecPPost w (toGs r) e w' := by
 subst hr
 exact ⟨A, c, he, hsl, hb, hm⟩
set_option maxRecDepth 100000 in
set_option maxHeartbeats 8000000 in
theorem decodePart_any (s : ByteArray) (hs : s.size ≤ 100000000) (w : World) (hmx : Mx w) (htb : Tb w) :
    Calls Tryz.prog 85 #[.string s] w (DecPPost w (toGs (decP2 s.data.toList))) := by
  obtain ⟨r, hr⟩ : ∃ r, decP2 s.data.toList = r := ⟨_, rfl⟩
  rw [hr]
  obtain ⟨ol, hol⟩ : ∃ o, listF s.data.toList = o := ⟨_, rfl⟩
  have HRO := hide (show r = decPL ol by rw [← hr, decP2, hol])
  have HOL := hide hol
  have HMX := hide hmx
  have HTB := hide htb
  clear hr hol hmx htb
  go_enter Tryz.func85, Tryz.ntmps85
  go_wp2_with fail
  refine (List_any s (by omega) _).mono ?_
  rintro e wL ⟨hbL, hres⟩
  rw [HOL.out] at hres
  have HBL := hide hbL
  have hzL := hbL.size
  clear hbL
  cases ol with
  | error k =>
    obtain rfl : e = _ := hres
    have hk : k ≠ 0 := fun h => list_err0 _ _ (Nat.le_refl _) (h ▸ HOL.out)
    have ht2 : (k != 0) = true := by simpa using hk
    have HN := hide (show r = .error k from HRO.out)
    clear hk
    go_wp2_with fail
    go_ret2
    exact DecPPost.err HN.out rfl HBL.out
  | ok L =>
    obtain ⟨A, cp, rfl, hsl⟩ := hres
    obtain ⟨-, hlc, hcm⟩ := hsl.len_
    unfold maxLen at hcm
    have HML := hide (fun (k : Nat) (h : k < L.length) => (list_is_wrap _ _ _ (Nat.le_refl _) HOL.out L[k] (List.getElem_mem h)).2.2.1)
    have HSL := hide (show Sl RElt 3 wL (Lt wL.heap.size) L [.slice A L.length cp] from (Sl.ok RElt.ok).mono hsl (fun _ _ => rfl) (fun j hj => hj.2))
    have hLs := list_len _ _ _ (Nat.le_refl _) HOL.out
    rw [size_string] at hLs
    clear hsl
    by_cases h0 : L.length = 0
    · have t0 : ((L.length : Int) == 0) = true := by rw [h0]; rfl
      have HN := hide (show r = .error 7 by rw [HRO.out, decPL, if_pos h0])
      clear h0
      go_wp2_with fail
      go_ret2
      exact DecPPost.err HN.out rfl HBL.out
    · have t0L : ((L.length : Int) == 0) = false := beq_false_of_ne (by omega)
      have HR := hide (show r = mapE decT L by rw [HRO.out, decPL, if_neg h0])
      clear h0
      obtain ⟨base, hbase⟩ : ∃ b, b = wL.heap.size := ⟨_, rfl⟩
      have hgs0 : base ≤ wL.heap.size := by omega
      have hbw : w.heap.size ≤ base := by omega
      have HBASE := hide hbase
      have H0 := hide (show mapE decT L = preE [] (mapE decT (L.drop 0)) by rw [List.drop_zero, preE_nil])
      clear hbase
      go_wp2_with fail
      go_loopw [6, 25] (fun v i wr => ∃ (k : Nat) (l : List Gen) (S : Nat → Prop), k ≤ L.length ∧ l.length = k ∧ i = .int .i64 k ∧ Below wL.heap.size wL wr ∧ base ≤ wr.heap.size ∧ Own RGen 3 62 wr base S v l ∧
        (∀ j, S j → base ≤ j ∧ j < wr.heap.size) ∧ MedGs l ∧ Hid (mapE decT L = preE l (mapE decT (L.drop k)))) (fun _ i _ => L.length - (intOf i).toNat)
      case atStart => exact ⟨0, [], No, by omega, rfl, rfl, Below.refl _ _, hgs0, Own.nil _ _ _ _ _ _, fun j h => h.elim, (fun x hx => by cases hx), H0⟩
      case round =>
        obtain ⟨k, l, S, hk, hlk, rfl, hbr, hgs, hown, hS, hsm, H⟩ := hrel
        have HLK := hide hlk
        have hlk2 : l.length ≤ k := by omega
        obtain ⟨A6, c6, hv6⟩ := (hown.sl RGen.ok).shape
        subst hv6
        have HBR := hide hbr
        have HOWN := hide hown
        have HS := hide hS
        have HSM := hide hsm
        have HB := hide (HBL.out.trans (hbr.mono HBL.out.size))
        clear hlk hown hS hsm
        by_cases hlt : k < L.length
        · obtain ⟨b, off, hA, hbS, e0, e1, e2⟩ := HSL.out.eltAt hlt
          subst hA
          have hcl2 := HML.out k hlt
          have HPS := hide (fun (x : Gen) (h : decT L[k] = .ok x) => H.out.trans (preE_at hlt h))
          have HPN := hide (fun (e : Int) (h : decT L[k] = .error e) => H.out.trans (preE_err hlt h))
          obtain ⟨⟨et, ec, er⟩, hel⟩ : ∃ e, L[k] = e := ⟨_, rfl⟩
          rw [hel] at e0 e1 e2 hcl2 HPS HPN
          simp only at e0 e1 e2 hcl2
          obtain ⟨z1, hz1⟩ : ∃ x : ByteArray, x = ⟨ec.toArray⟩ := ⟨_, rfl⟩
          obtain ⟨z2, hz2⟩ : ∃ x : ByteArray, x = ⟨er.toArray⟩ := ⟨_, rfl⟩
          have hz1d : ec = z1.data.toList := by rw [hz1]
          have hz2d : er = z2.data.toList := by rw [hz2]
          rw [← hz1] at e1
          rw [← hz2] at e2
          rw [hz1d] at hcl2
          rw [size_string] at hcl2
          rw [hz1d, hz2d] at HPS HPN
          obtain ⟨o, ho⟩ : ∃ o, openF (et : Int) 48 z1.data.toList = o := ⟨_, rfl⟩
          have HDT := hide (show decT (et, z1.data.toList, z2.data.toList) = decTG o by rw [← ho]; rfl)
          rw [HDT.out] at HPS HPN
          have HO := hide ho
          have hbM : b < wL.heap.size := hbS
          have p0 := (hbr.cell (p := ⟨b, off + k * 3, none⟩) hbM).trans e0
          have p1 := (hbr.cell (p := ⟨b, off + k * 3 + 1, none⟩) hbM).trans e1
          have p2 := (hbr.cell (p := ⟨b, off + k * 3 + 2, none⟩) hbM).trans e2
          clear e0 e1 e2 hz1 hz2 hel hz1d hz2d ho hbr hbS hbM
          obtain ⟨wo, rfl⟩ : ∃ wo : World, wo = wr := ⟨_, rfl⟩
          go_upto_region 10 with fail
          obtain ⟨wB, hwB⟩ : ∃ W, W = wo.alloc (.cells #[.int .i64 (et : Int), .string z1, .string z2] 72) := ⟨_, rfl⟩
          have q0 : wB.cell? ⟨wo.heap.size, 0, none⟩ = some (.int .i64 (et : Int)) := by rw [hwB, World.cell?_alloc_new]; rfl
          have q1 : wB.cell? ⟨wo.heap.size, 1, none⟩ = some (.string z1) := by rw [hwB, World.cell?_alloc_new]; rfl
          have q2 : wB.cell? ⟨wo.heap.size, 2, none⟩ = some (.string z2) := by rw [hwB, World.cell?_alloc_new]; rfl
          have HBB := hide (show Below wo.heap.size wo wB by rw [hwB]; exact (Below.refl _ _).alloc (Nat.le_refl _) _)
          have hzB : wB.heap.size = wo.heap.size + 1 := by rw [hwB]; simp
          rw [← hwB]
          clear hwB p0 p1 p2
          obtain ⟨gx, hgx⟩ : ∃ g, wo.heap.size = g := ⟨_, rfl⟩
          have HGX := hide hgx
          rw [hgx] at q0 q1 q2 ⊢
          clear hgx
          have HBW := hide (HB.out.trans (HBB.out.mono HB.out.size))
          have HBWr := hide (HBR.out.trans (HBB.out.mono HBR.out.size))
          by_cases h48 : et = 48
          · have t48 : ((et : Int) != 48) = false := by rw [h48]; rfl
            have HOL2 := hide (show listF z1.data.toList = o by rw [← HO.out, openF, if_neg (by rw [h48]; simp)])
            clear h48
            go_wp2_with fail
            refine (List_any z1 (by omega) _).mono ?_
            rintro e w3 ⟨hb3, hres⟩
            rw [HOL2.out] at hres
            have HB3 := hide (HBW.out.trans (hb3.mono HBW.out.size))
            have HB3r := hide (HBWr.out.trans (hb3.mono HBWr.out.size))
            have HB3q := hide (HBB.out.trans (hb3.mono HBB.out.size))
            have hz3 := hb3.size
            clear hb3 q0 q1 q2
            cases o with
            | error k9 =>
              obtain rfl : e = _ := hres
              have hk9 : k9 ≠ 0 := fun h => list_err0 _ _ (Nat.le_refl _) (h ▸ HOL2.out)
              have ht : (k9 != 0) = true := by simpa using hk9
              have HN := hide (show r = .error k9 by rw [HR.out, HPN.out k9 rfl])
              clear hk9
              go_wp2_with fail
              go_ret2
              exact DecPPost.err HN.out rfl HB3.out
            | ok X =>
              obtain ⟨AX, cX, rfl, hslX⟩ := hres
              obtain ⟨-, hXc, hXm⟩ := hslX.len_
              unfold maxLen at hXm
              match X, HDT, HOL2, hslX, HPS, HPN with
              | [], HDT, HOL2, hslX, HPS, HPN =>
                have HN := hide (show r = .error 3 by rw [HR.out, HPN.out 3 rfl])
                clear hslX
                go_wp2_with fail
                go_ret2
                exact DecPPost.err HN.out rfl HB3.out
              | x0 :: xr, HDT, HOL2, hslX, HPS, HPN =>
                obtain ⟨n9, hn9⟩ : ∃ n, (x0 :: xr).length = n := ⟨_, rfl⟩
                have h0n : 0 < n9 := by rw [← hn9]; simp
                have t0 : ((n9 : Int) == 0) = false := by rw [beq_eq_false_iff_ne]; omega
                have h0n' : (0 : Int) < (n9 : Int) := by omega
                obtain ⟨b4, off4, hA4, hbS4, f0, f1, f2⟩ := ((Sl.ok RElt.ok).mono hslX (fun _ _ => rfl) (S' := Lt w3.heap.size) (fun j hj => hj.2)).eltAt (i := 0) (by simp)
                subst hA4
                have hcl4 := (list_is_wrap _ _ _ (Nat.le_refl _) HOL2.out x0 (by simp)).2.2.1
                obtain ⟨xt, xc, xw⟩ := x0
                simp only [List.getElem_cons_zero, Nat.zero_mul, Nat.add_zero] at f0 f1 f2
                simp only at hcl4
                obtain ⟨y1, hy1⟩ : ∃ x : ByteArray, x = ⟨xc.toArray⟩ := ⟨_, rfl⟩
                obtain ⟨y2, hy2⟩ : ∃ x : ByteArray, x = ⟨xw.toArray⟩ := ⟨_, rfl⟩
                have hy1d : xc = y1.data.toList := by rw [hy1]
                have hy2d : xw = y2.data.toList := by rw [hy2]
                rw [← hy1] at f1
                rw [← hy2] at f2
                rw [hy1d] at hcl4
                rw [size_string] at hcl4
                obtain ⟨oD, hoD⟩ : ∃ o, decG (xt : Int) y1.data.toList true = o := ⟨_, rfl⟩
                have HOD := hide hoD
                have HDX := hide (show decTG (.ok ((xt, xc, xw) :: xr)) = decTX xr oD by rw [← hoD, hy1d]; rfl)
                rw [HDX.out] at HPS HPN
                have HN9 := hide hn9
                rw [hn9] at hslX ⊢
                clear hslX hy1 hy2 hy1d hy2d hoD hn9 hbS4
                go_wp2_with fail
                refine (gDecode_any (xt : Int) y1 y2 true (by omega) _ (HMX.out.below HB3.out) (HTB.out.below HB3.out)).mono ?_
                rintro e w5 ⟨t5, A5, c5, rfl, ht5, hsl5, hb5, hmed5⟩
                rw [HOD.out] at ht5 hsl5 hmed5 ⊢
                have hsz5 := hb5.size
                clear f0 f1 f2
                go_upto_region 18 with fail
                cases oD with
                | error k9 =>
                  have hk9 : k9 ≠ 0 := fun h => decG_err0 (h ▸ HOD.out)
                  have ht : (k9 != 0) = true := by simpa using hk9
                  have HN := hide (show r = .error k9 by rw [HR.out, HPN.out k9 rfl])
                  have HB5 := hide (HB3.out.trans (hb5.mono HB3.out.size))
                  rw [show toG (.error k9) = (k9, (0, [], [])) from rfl] at ht5 ⊢
                  have HB6 := hide (HB5.out.alloc HB5.out.size (.cells #[.int .i64 0, .string t5, .slice A5 0 c5] 62))
                  clear hk9 hb5 hsl5 hmed5 ht5
                  go_wp2_with fail
                  go_ret2
                  exact DecPPost.err HN.out rfl HB6.out
                | ok gg =>
                  obtain ⟨kb, tb, nb⟩ := gg
                  rw [show toG (.ok (kb, tb, nb)) = (0, (kb, tb, nb)) from rfl] at ht5 hsl5 hmed5 ⊢
                  simp only at ht5 hsl5 hmed5 ⊢
                  subst ht5
                  obtain ⟨wG, hwG⟩ : ∃ W, W = w5.alloc (.cells #[.int .i64 kb, .string t5, .slice A5 nb.length c5] 62) := ⟨_, rfl⟩
                  obtain ⟨g0, g1, g2⟩ := gen_cells9 hwG
                  have hb5 : Below w3.heap.size w3 wG := by rw [hwG]; exact hb5.alloc hb5.size _
                  have hzG : wG.heap.size = w5.heap.size + 1 := by rw [hwG]; simp
                  have hsl5 : Sl RRdn 1 wG (Btw w3.heap.size wG.heap.size) nb [.slice A5 nb.length c5] := (Sl.ok RRdn.ok).mono hsl5 (fun j hj => by rw [hwG]; exact Below.heap_alloc _ _ j hj.2) (fun j hj => ⟨hj.1, by have := hj.2; omega⟩)
                  rw [← hwG]
                  clear hwG
                  have HMED := hide hmed5
                  have HB5 := hide (HB3.out.trans (hb5.mono HB3.out.size))
                  have HB5r := hide (HB3r.out.trans (hb5.mono HB3r.out.size))
                  by_cases hxr : xr = []
                  · have h1n : ¬ (1 : Int) < (n9 : Int) := by rw [← HN9.out, hxr]; simp
                    have HY := hide (show mapE decT L = preE (l ++ [(kb, t5.data.toList, nb)]) (mapE decT (L.drop (k + 1))) from HPS.out _ (by rw [decTX, if_neg (by simpa using hxr)]))
                    obtain ⟨S', hc1, hc2, hc3⟩ := gen_step (k := kb) (t := t5) HOWN.out HS.out hgs HB3q.out hb5 hsl5
                    have hbG9 : base ≤ wG.heap.size := by omega
                    clear hsl5 hb5 hmed5 hzG hxr
                    go_wp2_with (at_builtin; refine wpList_app RGen.ok _ rfl (.tmp 57) (.tmp 59) 50 rfl base 62 (.agg #[.int .i64 0, .string ⟨#[]⟩, .slice none 0 0]) 48 Tryz.underlying50 info_gen rfl (by decide) S' _ l rfl hc1 ⟨_, 0, none⟩ 1 1 [(kb, t5.data.toList, nb)] rfl rfl hc2 (fun b hb => (hc3 b hb).2) (by simp; omega) (by simp [maxLen]; omega) (by simp; omega) ?_; intro v6 w6 hown6 hgr6 hb6 hat6; have hsz6 := hb6.size; simp at hsz6)
                    have hsz7 : wG.heap.size + 1 ≤ w6.heap.size := by simpa using hsz6
                    go_roundw
                    case rel => exact ⟨k + 1, l ++ [(kb, t5.data.toList, nb)], S', by omega, by simp [HLK.out], by go_num, (HB5r.out.alloc HB5r.out.size _).trans (HBASE.out ▸ hb6), by omega, hown6, fun j hj => ⟨(hc3 j hj).1, by have := (hc3 j hj).2; simp at this; omega⟩, (fun x hx => by
                      rcases List.mem_append.1 hx with hx | hx
                      · exact HSM.out x hx
                      · simp at hx; subst hx; exact HMED.out), HY⟩
                    case measure => simp [intOf]; omega
                  · have h1n : (1 : Int) < (n9 : Int) := by
                      have : xr.length ≠ 0 := fun h => hxr (List.eq_nil_of_length_eq_zero h)
                      rw [← HN9.out, List.length_cons]; omega
                    have HN := hide (show r = .error 4 by rw [HR.out, HPN.out 4 (by rw [decTX, if_pos hxr])])
                    clear hsl5 hb5 hmed5 hxr hzG
                    go_wp2_with fail
                    go_ret2
                    exact DecPPost.err HN.out rfl HB5.out
          · have t48 : ((et : Int) != 48) = true := by simp only [bne_iff_ne, ne_eq]; omega
            have ho5 : o = .error 5 := by rw [← HO.out, openF, if_pos (by omega)]
            have HN := hide (show r = .error 5 by rw [HR.out, HPN.out 5 (by rw [ho5]; rfl)])
            clear h48 ho5
            go_wp2_with fail
            go_ret2
            exact DecPPost.err HN.out rfl HBW.out
        · have HP := hide (show r = .ok l by rw [HR.out, H.out, List.drop_of_length_le (by omega)]; simp [preE, mapE])
          have hsl := (Sl.ok RGen.ok).mono (HOWN.out.sl RGen.ok) (fun _ _ => rfl) (S' := Btw w.heap.size wr.heap.size) (fun j hj => by rcases hj with hj | hj; exact ⟨by have := (HS.out j hj).1; omega, (HS.out j hj).2⟩; exact ⟨by have := hj.1; omega, hj.2⟩)
          have HSLv := hide hsl
          clear hsl hbr
          go_wp2_with fail
          go_ret2
          exact DecPPost.ok HP.out rfl HSLv.out HB.out HSM.out
set_option maxRecDepth 100000 in
set_option maxHeartbeats 8000000 in
theorem trees_any (et : Int) (s raw : ByteArray) (hs : s.size ≤ 100000000) (w : World) (hmx : Mx w) (htb : Tb w) :
    Calls Tryz.prog 89 #[.agg #[.int .i64 et, .string s, .string raw]] w (DecPPost w (toGs (decP2 s.data.toList))) := by
  obtain ⟨r, hr⟩ : ∃ r, decP2 s.data.toList = r := ⟨_, rfl⟩
  rw [hr]
  obtain ⟨ol, hol⟩ : ∃ o, listF s.data.toList = o := ⟨_, rfl⟩
  have HRO := hide (show r = decPL ol by rw [← hr, decP2, hol])
  have HOL := hide hol
  have HMX := hide hmx
  have HTB := hide htb
  obtain ⟨wa, hwa⟩ : ∃ W, W = w.alloc (.cells #[.int .i64 et, .string s, .string raw] 72) := ⟨_, rfl⟩
  have a1 : wa.cell? ⟨w.heap.size, 1, none⟩ = some (.string s) := by rw [hwa, World.cell?_alloc_new]; rfl
  have HBA := hide (show Below w.heap.size w wa by rw [hwa]; exact (Below.refl _ _).alloc (Nat.le_refl _) _)
  clear hr hol hmx htb
  go_enter Tryz.func89, Tryz.ntmps89
  go_upto_region 1 with fail
  rw [← hwa]
  clear hwa
  go_wp2_with fail
  refine (rList_any s (by omega) _).mono ?_
  rintro e wL ⟨hbL, hres⟩
  rw [HOL.out] at hres
  have HBL := hide (HBA.out.trans (hbL.mono HBA.out.size))
  have hzL := HBL.out.size
  clear hbL a1
  cases ol with
  | error k =>
    obtain rfl : e = _ := hres
    have hk : k ≠ 0 := fun h => list_err0 _ _ (Nat.le_refl _) (h ▸ HOL.out)
    have ht2 : (k != 0) = true := by simpa using hk
    have HN := hide (show r = .error k from HRO.out)
    clear hk
    go_wp2_with fail
    go_ret2
    exact DecPPost.err HN.out rfl HBL.out
  | ok L =>
    obtain ⟨A, cp, rfl, hsl⟩ := hres
    obtain ⟨-, hlc, hcm⟩ := hsl.len_
    unfold maxLen at hcm
    have HML := hide (fun (k : Nat) (h : k < L.length) => (list_is_wrap _ _ _ (Nat.le_refl _) HOL.out L[k] (List.getElem_mem h)).2.2.1)
    have HSL := hide (show Sl RElt 3 wL (Lt wL.heap.size) L [.slice A L.length cp] from (Sl.ok RElt.ok).mono hsl (fun _ _ => rfl) (fun j hj => hj.2))
    have hLs := list_len _ _ _ (Nat.le_refl _) HOL.out
    rw [size_string] at hLs
    clear hsl
    by_cases h0 : L.length = 0
    · have t0 : ((L.length : Int) == 0) = true := by rw [h0]; rfl
      have HN := hide (show r = .error 7 by rw [HRO.out, decPL, if_pos h0])
      clear h0
      go_wp2_with fail
      go_ret2
      exact DecPPost.err HN.out rfl HBL.out
    · have t0L : ((L.length : Int) == 0) = false := beq_false_of_ne (by omega)
      have HR := hide (show r = mapE decT L by rw [HRO.out, decPL, if_neg h0])
      clear h0
      obtain ⟨base, hbase⟩ : ∃ b, b = wL.heap.size := ⟨_, rfl⟩
      have hgs0 : base ≤ wL.heap.size := by omega
      have hbw : w.heap.size ≤ base := by omega
      have HBASE := hide hbase
      have H0 := hide (show mapE decT L = preE [] (mapE decT (L.drop 0)) by rw [List.drop_zero, preE_nil])
      clear hbase
      go_wp2_with fail
      go_loopw [6, 28] (fun v i wr => ∃ (k : Nat) (l : List Gen) (S : Nat → Prop), k ≤ L.length ∧ l.length = k ∧ i = .int .i64 k ∧ Below wL.heap.size wL wr ∧ base ≤ wr.heap.size ∧ Own RGen 3 62 wr base S v l ∧
        (∀ j, S j → base ≤ j ∧ j < wr.heap.size) ∧ MedGs l ∧ Hid (mapE decT L = preE l (mapE decT (L.drop k)))) (fun _ i _ => L.length - (intOf i).toNat)
      case atStart => exact ⟨0, [], No, by omega, rfl, rfl, Below.refl _ _, hgs0, Own.nil _ _ _ _ _ _, fun j h => h.elim, (fun x hx => by cases hx), H0⟩
      case round =>
        obtain ⟨k, l, S, hk, hlk, rfl, hbr, hgs, hown, hS, hsm, H⟩ := hrel
        have HLK := hide hlk
        have hlk2 : l.length ≤ k := by omega
        obtain ⟨A6, c6, hv6⟩ := (hown.sl RGen.ok).shape
        subst hv6
        have HBR := hide hbr
        have HOWN := hide hown
        have HS := hide hS
        have HSM := hide hsm
        have HB := hide (HBL.out.trans (hbr.mono HBL.out.size))
        clear hlk hown hS hsm
        by_cases hlt : k < L.length
        · obtain ⟨b, off, hA, hbS, e0, e1, e2⟩ := HSL.out.eltAt hlt
          subst hA
          have hcl2 := HML.out k hlt
          have HPS := hide (fun (x : Gen) (h : decT L[k] = .ok x) => H.out.trans (preE_at hlt h))
          have HPN := hide (fun (e : Int) (h : decT L[k] = .error e) => H.out.trans (preE_err hlt h))
          obtain ⟨⟨et, ec, er⟩, hel⟩ : ∃ e, L[k] = e := ⟨_, rfl⟩
          rw [hel] at e0 e1 e2 hcl2 HPS HPN
          simp only at e0 e1 e2 hcl2
          obtain ⟨z1, hz1⟩ : ∃ x : ByteArray, x = ⟨ec.toArray⟩ := ⟨_, rfl⟩
          obtain ⟨z2, hz2⟩ : ∃ x : ByteArray, x = ⟨er.toArray⟩ := ⟨_, rfl⟩
          have hz1d : ec = z1.data.toList := by rw [hz1]
          have hz2d : er = z2.data.toList := by rw [hz2]
          rw [← hz1] at e1
          rw [← hz2] at e2
          rw [hz1d] at hcl2
          rw [size_string] at hcl2
          rw [hz1d, hz2d] at HPS HPN
          obtain ⟨o, ho⟩ : ∃ o, openF (et : Int) 48 z1.data.toList = o := ⟨_, rfl⟩
          have HDT := hide (show decT (et, z1.data.toList, z2.data.toList) = decTG o by rw [← ho]; rfl)
          rw [HDT.out] at HPS HPN
          have HO := hide ho
          have hbM : b < wL.heap.size := hbS
          have p0 := (hbr.cell (p := ⟨b, off + k * 3, none⟩) hbM).trans e0
          have p1 := (hbr.cell (p := ⟨b, off + k * 3 + 1, none⟩) hbM).trans e1
          have p2 := (hbr.cell (p := ⟨b, off + k * 3 + 2, none⟩) hbM).trans e2
          clear e0 e1 e2 hz1 hz2 hel hz1d hz2d ho hbr hbS hbM
          obtain ⟨wo, rfl⟩ : ∃ wo : World, wo = wr := ⟨_, rfl⟩
          go_upto_region 10 with fail
          obtain ⟨wB, hwB⟩ : ∃ W, W = wo.alloc (.cells #[.int .i64 (et : Int), .string z1, .string z2] 72) := ⟨_, rfl⟩
          have q0 : wB.cell? ⟨wo.heap.size, 0, none⟩ = some (.int .i64 (et : Int)) := by rw [hwB, World.cell?_alloc_new]; rfl
          have q1 : wB.cell? ⟨wo.heap.size, 1, none⟩ = some (.string z1) := by rw [hwB, World.cell?_alloc_new]; rfl
          have q2 : wB.cell? ⟨wo.heap.size, 2, none⟩ = some (.string z2) := by rw [hwB, World.cell?_alloc_new]; rfl
          have HBB := hide (show Below wo.heap.size wo wB by rw [hwB]; exact (Below.refl _ _).alloc (Nat.le_refl _) _)
          have hzB : wB.heap.size = wo.heap.size + 1 := by rw [hwB]; simp
          rw [← hwB]
          clear hwB p0 p1 p2
          obtain ⟨gx, hgx⟩ : ∃ g, wo.heap.size = g := ⟨_, rfl⟩
          have HGX := hide hgx
          rw [hgx] at q0 q1 q2 ⊢
          clear hgx
          have HBW := hide (HB.out.trans (HBB.out.mono HB.out.size))
          have HBWr := hide (HBR.out.trans (HBB.out.mono HBR.out.size))
          go_wp2_with fail
          refine (Open_any (et : Int) 48 z1 z2 (by omega) _).mono ?_
          rintro e w3 ⟨hb3, hres⟩
          rw [HO.out] at hres
          have HB3 := hide (HBW.out.trans (hb3.mono HBW.out.size))
          have HB3r := hide (HBWr.out.trans (hb3.mono HBWr.out.size))
          have HB3q := hide (HBB.out.trans (hb3.mono HBB.out.size))
          have hz3 := hb3.size
          clear hb3 q0 q1 q2
          cases o with
          | error k9 =>
            obtain rfl : e = _ := hres
            have hk9 : k9 ≠ 0 := fun h => openF_err0 (h ▸ HO.out)
            have ht : (k9 != 0) = true := by simpa using hk9
            have HN := hide (show r = .error k9 by rw [HR.out, HPN.out k9 rfl])
            have HB4 := hide (HB3.out.alloc HB3.out.size (.cells #[.slice none 0 0, .int .i64 0] 120))
            clear hk9
            go_wp2_with fail
            go_ret2
            exact DecPPost.err HN.out rfl HB4.out
          | ok X =>
            obtain ⟨AX, cX, rfl, hslX⟩ := hres
            obtain ⟨wF, hwF⟩ : ∃ W, W = w3.alloc (.cells #[.slice AX X.length cX, .int .i64 0] 120) := ⟨_, rfl⟩
            have hF := FAt.new hslX hwF
            have hbF : Below w3.heap.size w3 wF := by rw [hwF]; exact (Below.refl _ _).alloc (Nat.le_refl _) _
            go_upto_region 11 with fail
            rw [← hwF]
            obtain ⟨gF, hgF⟩ : ∃ g, w3.heap.size = g := ⟨_, rfl⟩
            rw [hgF] at hF ⊢
            have hgB : wB.heap.size ≤ gF := by omega
            have hgr : wL.heap.size ≤ gF := by have := HB3r.out.size; omega
            have hgw : w.heap.size ≤ gF := by omega
            have HF := hide hF
            have HBF := hide (HB3.out.trans (hbF.mono HB3.out.size))
            have HBFr := hide (HB3r.out.trans (hbF.mono HB3r.out.size))
            have HBFq := hide (HB3q.out.trans (hbF.mono HB3q.out.size))
            clear hF hwF hbF hgF hslX
            go_wp2_with fail
            refine (Need_any gF X (-1) _ HF.out).mono ?_
            rintro e w4 ⟨rfl, hF4, hex4⟩
            have HB4 := hide (Ex.below HBF.out HBF.out.size hgw hex4)
            have HB4r := hide (Ex.below HBFr.out HBFr.out.size hgr hex4)
            have HB4q := hide (Ex.below HBFq.out HBFq.out.size (by omega) hex4)
            clear hex4
            match X, HDT, HO, hF4, HPS, HPN with
            | [], HDT, HO, hF4, HPS, HPN =>
              have HN := hide (show r = .error 3 by rw [HR.out, HPN.out 3 rfl])
              have HB5 := hide (HB4.out.alloc HB4.out.size (.cells #[.int .i64 0, .string ⟨#[]⟩, .string ⟨#[]⟩] 72))
              rw [show (needF [] (-1)).1 = .error 3 from rfl, show oneR (.error 3) = .tuple #[.agg #[.int .i64 0, .string ⟨#[]⟩, .string ⟨#[]⟩], .int .i64 3] from rfl]
              clear hF4
              go_wp2_with fail
              go_ret2
              exact DecPPost.err HN.out rfl HB5.out
            | x0 :: xr, HDT, HO, hF4, HPS, HPN =>
              have hXX : listF z1.data.toList = .ok (x0 :: xr) := by
                have := HO.out
                rw [openF] at this
                split at this
                · cases this
                · exact this
              have hcl4 := (list_is_wrap _ _ _ (Nat.le_refl _) hXX x0 (by simp)).2.2.1
              obtain ⟨xt, xc, xw⟩ := x0
              simp only at hcl4
              obtain ⟨y1, hy1⟩ : ∃ x : ByteArray, x = ⟨xc.toArray⟩ := ⟨_, rfl⟩
              obtain ⟨y2, hy2⟩ : ∃ x : ByteArray, x = ⟨xw.toArray⟩ := ⟨_, rfl⟩
              have hy1d : xc = y1.data.toList := by rw [hy1]
              rw [hy1d] at hcl4
              rw [size_string] at hcl4
              obtain ⟨oD, hoD⟩ : ∃ o, decG (xt : Int) y1.data.toList true = o := ⟨_, rfl⟩
              have HOD := hide hoD
              have HDX := hide (show decTG (.ok ((xt, xc, xw) :: xr)) = decTX xr oD by rw [← hoD, hy1d]; rfl)
              rw [HDX.out] at HPS HPN
              have HNF := hide (show needF ((xt, xc, xw) :: xr) (-1) = (.ok (xt, xc, xw), xr) by rw [needF, if_neg (fun h => by have := h.1; omega)])
              have HV := hide (show oneR (.ok (xt, xc, xw)) = .tuple #[.agg #[.int .i64 (xt : Int), .string y1, .string y2], .int .i64 0] by rw [oneR, eltV, hy1, hy2])
              rw [HNF.out] at hF4 ⊢
              rw [HV.out]
              obtain ⟨wC, hwC⟩ : ∃ W, W = w4.alloc (.cells #[.int .i64 (xt : Int), .string y1, .string y2] 72) := ⟨_, rfl⟩
              have m0 : wC.cell? ⟨w4.heap.size, 0, none⟩ = some (.int .i64 (xt : Int)) := by rw [hwC, World.cell?_alloc_new]; rfl
              have m1 : wC.cell? ⟨w4.heap.size, 1, none⟩ = some (.string y1) := by rw [hwC, World.cell?_alloc_new]; rfl
              have m2 : wC.cell? ⟨w4.heap.size, 2, none⟩ = some (.string y2) := by rw [hwC, World.cell?_alloc_new]; rfl
              have hbC : Below w4.heap.size w4 wC := by rw [hwC]; exact (Below.refl _ _).alloc (Nat.le_refl _) _
              have HFC := hide (hF4.below hbC)
              have HBC := hide (HB4.out.trans (hbC.mono HB4.out.size))
              have HBCr := hide (HB4r.out.trans (hbC.mono HB4r.out.size))
              have HBCq := hide (HB4q.out.trans (hbC.mono HB4q.out.size))
              clear hy1 hy2 hy1d hoD hXX
              go_upto_region 14 with fail
              rw [← hwC]
              clear hwC hbC hF4
              go_wp2_with fail
              refine (rDecodeG_any (xt : Int) y1 y2 true (by omega) _ (HMX.out.below HBC.out) (HTB.out.below HBC.out)).mono ?_
              rintro e w5 ⟨t5, A5, c5, rfl, ht5, hsl5, hb5, hmed5⟩
              rw [HOD.out] at ht5 hsl5 hmed5 ⊢
              have hsz5 := hb5.size
              clear m0 m1 m2
              go_upto_region 17 with fail
              cases oD with
              | error k9 =>
                have hk9 : k9 ≠ 0 := fun h => decG_err0 (h ▸ HOD.out)
                have ht : (k9 != 0) = true := by simpa using hk9
                have HN := hide (show r = .error k9 by rw [HR.out, HPN.out k9 rfl])
                have HB5 := hide (HBC.out.trans (hb5.mono HBC.out.size))
                rw [show toG (.error k9) = (k9, (0, [], [])) from rfl] at ht5 ⊢
                have HB6 := hide (HB5.out.alloc HB5.out.size (.cells #[.int .i64 0, .string t5, .slice A5 0 c5] 62))
                clear hk9 hb5 hsl5 hmed5 ht5
                go_wp2_with fail
                go_ret2
                exact DecPPost.err HN.out rfl HB6.out
              | ok gg =>
                obtain ⟨kb, tb, nb⟩ := gg
                rw [show toG (.ok (kb, tb, nb)) = (0, (kb, tb, nb)) from rfl] at ht5 hsl5 hmed5 ⊢
                simp only at ht5 hsl5 hmed5 ⊢
                subst ht5
                obtain ⟨wG, hwG⟩ : ∃ W, W = w5.alloc (.cells #[.int .i64 kb, .string t5, .slice A5 nb.length c5] 62) := ⟨_, rfl⟩
                obtain ⟨g0, g1, g2⟩ := gen_cells9 hwG
                have hb5 : Below wC.heap.size wC wG := by rw [hwG]; exact hb5.alloc hb5.size _
                have hzG : wG.heap.size = w5.heap.size + 1 := by rw [hwG]; simp
                have hsl5 : Sl RRdn 1 wG (Btw wC.heap.size wG.heap.size) nb [.slice A5 nb.length c5] := (Sl.ok RRdn.ok).mono hsl5 (fun j hj => by rw [hwG]; exact Below.heap_alloc _ _ j hj.2) (fun j hj => ⟨hj.1, by have := hj.2; omega⟩)
                have HFG := hide (HFC.out.below hb5)
                rw [← hwG]
                obtain ⟨gG, hgG⟩ : ∃ g, w5.heap.size = g := ⟨_, rfl⟩
                rw [hgG] at g0 g1 g2
                try rw [hgG]
                clear hwG
                have HMED := hide hmed5
                have HG0 := hide g0
                have HG1 := hide g1
                have HG2 := hide g2
                have HSL5 := hide hsl5
                have HBG := hide hb5
                have HZG := hide hzG
                have HGG := hide hgG
                clear hb5 hsl5 hmed5 hzG g0 g1 g2 hgG hsz5
                go_wp2_with fail
                refine (End_any gF xr _ HFG.out).mono ?_
                rintro e w7 ⟨rfl, n7, hw7⟩
                have g0 : w7.cell? ⟨gG, 0, none⟩ = some (.int .i64 kb) := by rw [hw7]; exact HG0.out
                have g1 : w7.cell? ⟨gG, 1, none⟩ = some (.string t5) := by rw [hw7]; exact HG1.out
                have g2 : w7.cell? ⟨gG, 2, none⟩ = some (.slice A5 nb.length c5) := by rw [hw7]; exact HG2.out
                have hb5 : Below wC.heap.size wC w7 := by rw [hw7]; exact below_drewN HBG.out n7
                have hsl5 : Sl RRdn 1 w7 (Btw wC.heap.size w7.heap.size) nb [.slice A5 nb.length c5] := by rw [hw7]; exact HSL5.out
                have hz7 : w7.heap.size = wG.heap.size := by rw [hw7]; rfl
                have HB5 := hide (HBC.out.trans (hb5.mono HBC.out.size))
                have HB5r := hide (HBCr.out.trans (hb5.mono HBCr.out.size))
                clear hw7
                by_cases hxr : xr = []
                · rw [if_pos hxr]
                  have HY := hide (show mapE decT L = preE (l ++ [(kb, t5.data.toList, nb)]) (mapE decT (L.drop (k + 1))) from HPS.out _ (by rw [decTX, if_neg (by simpa using hxr)]))
                  obtain ⟨S', hc1, hc2, hc3⟩ := gen_step (k := kb) (t := t5) HOWN.out HS.out hgs HBCq.out hb5 hsl5
                  have hbG9 : base ≤ w7.heap.size := by have := HB5r.out.size; have := HBASE.out; omega
                  clear hsl5 hb5 hxr hz7
                  go_wp2_with (at_builtin; refine wpList_app RGen.ok _ rfl (.tmp 59) (.tmp 61) 50 rfl base 62 (.agg #[.int .i64 0, .string ⟨#[]⟩, .slice none 0 0]) 48 Tryz.underlying50 info_gen rfl (by decide) S' _ l rfl hc1 ⟨_, 0, none⟩ 1 1 [(kb, t5.data.toList, nb)] rfl rfl hc2 (fun b hb => (hc3 b hb).2) (by simp; omega) (by simp [maxLen]; omega) (by simp; omega) ?_; intro v6 w6 hown6 hgr6 hb6 hat6; have hsz6 := hb6.size; simp at hsz6)
                  have hsz7 : w7.heap.size + 1 ≤ w6.heap.size := by simpa using hsz6
                  go_roundw
                  case rel => exact ⟨k + 1, l ++ [(kb, t5.data.toList, nb)], S', by omega, by simp [HLK.out], by go_num, (HB5r.out.alloc HB5r.out.size _).trans (HBASE.out ▸ hb6), by omega, hown6, fun j hj => ⟨(hc3 j hj).1, by have := (hc3 j hj).2; simp at this; omega⟩, (fun x hx => by
                    rcases List.mem_append.1 hx with hx | hx
                    · exact HSM.out x hx
                    · simp at hx; subst hx; exact HMED.out), HY⟩
                  case measure => simp [intOf]; omega
                · rw [if_neg hxr]
                  have HN := hide (show r = .error 4 by rw [HR.out, HPN.out 4 (by rw [decTX, if_pos hxr])])
                  clear hsl5 hb5 hxr hz7 g0 g1 g2
                  go_wp2_with fail
                  go_ret2
                  exact DecPPost.err HN.out rfl HB5.out
        · have HP := hide (show r = .ok l by rw [HR.out, H.out, List.drop_of_length_le (by omega)]; simp [preE, mapE])
          have hsl := (Sl.ok RGen.ok).mono (HOWN.out.sl RGen.ok) (fun _ _ => rfl) (S' := Btw w.heap.size wr.heap.size) (fun j hj => by rcases hj with hj | hj; exact ⟨by have := (HS.out j hj).1; omega, (HS.out j hj).2⟩; exact ⟨by have := hj.1; omega, hj.2⟩)
          have HSLv := hide hsl
          clear hsl hbr
          go_wp2_with fail
          go_ret2
          exact DecPPost.ok HP.out rfl HSLv.out HB.out HSM.out
end Go.Proofs.YtahamclodagihaaGreatDoor
namespace Go.Proofs.YtahamclodagihaaGreatDoor
open Go.RowKit
def toS : Except Int Sub → Int × Sub
 | .error k => (k, ([], []))
 | .ok s => (0, s)
def DecSPost (w : World) (p : Int × Sub) (e : Ending) (w' : World) : Prop :=
 ∃ (A B : Option Addr) (c d : Nat), e = .returned (.tuple #[.agg #[.slice A p.2.1.length c, .slice B p.2.2.length d], .int .i64 p.1]) ∧ Sl RGen 3 w' (Lt w'.heap.size) p.2.1 [.slice A p.2.1.length c] ∧ Sl RGen 3 w' (Lt w'.heap.size) p.2.2 [.slice B p.2.2.length d] ∧ Below w.heap.size w w'
theorem DecSPost.err {w : World} {r : Except Int Sub} {q : Int} {e : Ending} {w' : World} (hr : r = .error q) (he : e = .returned (.tuple #[.agg #[.slice none 0 0, .slice none 0 0], .int .i64 q])) (hb : Below w.heap.size w w') : DecSPost w (toS r) e w' := by
 subst hr
 exact ⟨none, none, 0, 0, he, Sl.nil _ _ _ _, Sl.nil _ _ _ _, hb⟩
theorem DecSPost.ok {w : World} {r : Except Int Sub} {p x : List Gen} {A B : Option Addr} {c d : Nat} {e : Ending} {w' : World} (hr : r = .ok (p, x)) (he : e = .returned (.tuple #[.agg #[.slice A p.length c, .slice B x.length d], .int .i64 0]))
  (h1 : Sl RGen 3 w' (Lt w'.heap.size) p [.slice A p.length c]) (h2 : Sl RGen 3 w' (Lt w'.heap.size) x [.slice B x.length d]) (hb : Below w.heap.size w w') : DecSPost w (toS r) e w' := by
 subst hr
 exact ⟨A, B, c, d, he, h1, h2, hb⟩
structure BAt (w : World) (g2 g4 : Nat) (W : World) : Prop where
 base : Below w.heap.size w W
 lo : w.heap.size ≤ g2
 o1 : g2 < g4
 n2 : SB g2 (.slice none 0 0) (.slice none 0 0) W
 n4 : SB g4 (.slice none 0 0) (.slice none 0 0) W
theorem BAt.grow {w W W' : World} {g2 g4 : Nat} (h : BAt w g2 g4 W) (hb : Below W.heap.size W W') : BAt w g2 g4 W' := ⟨h.base.trans (hb.mono h.base.size), h.lo, h.o1, h.n2.below hb, h.n4.below hb⟩
theorem BAt.step {w W W' : World} {g2 g4 g : Nat} (h : BAt w g2 g4 W) (hx : Ex g W W') (hg : g4 < g) : BAt w g2 g4 W' :=
 ⟨Ex.below h.base h.base.size (by have := h.lo; have := h.o1; omega) hx, h.lo, h.o1, h.n2.ex hx (by have := h.o1; omega), h.n4.ex hx (by omega)⟩
theorem BAt.set {w W : World} {g2 g4 g j : Nat} (h : BAt w g2 g4 W) (hg : g4 < g) (u : Value) : BAt w g2 g4 (W.setCell ⟨g, j, none⟩ u) :=
 ⟨h.base.setCell (p := ⟨g, j, none⟩) (by show w.heap.size ≤ g; have := h.lo; have := h.o1; omega) _, h.lo, h.o1, h.n2.other (by have := h.o1; omega) _, h.n4.other (by omega) _⟩
structure TrAt (w : World) (g2 g4 gF gS : Nat) (P X : List Gen) (A B : Option Addr) (c d : Nat) (rest : List Elt) (W : World) : Prop where
 b : BAt w g2 g4 W
 o2 : g4 < gF
 o3 : gF < gS
 s : SB gS (.slice A P.length c) (.slice B X.length d) W
 f : FAtB W gF gF rest
 kp : Sl RGen 3 W (Btw (gS + 1) W.heap.size) P [.slice A P.length c]
 kx : Sl RGen 3 W (Btw (gS + 1) W.heap.size) X [.slice B X.length d]
 med : MedGs (P ++ X)
theorem TrAt.grow {w W W' : World} {g2 g4 gF gS : Nat} {P X : List Gen} {A B : Option Addr} {c d : Nat} {rest : List Elt} (h : TrAt w g2 g4 gF gS P X A B c d rest W) (hb : Below W.heap.size W W') : TrAt w g2 g4 gF gS P X A B c d rest W' :=
 ⟨h.b.grow hb, h.o2, h.o3, h.s.below hb, h.f.grow hb, (Sl.ok RGen.ok).mono h.kp (fun k hk => hb.block k hk.2) (fun _ hk => ⟨hk.1, Nat.lt_of_lt_of_le hk.2 hb.size⟩), (Sl.ok RGen.ok).mono h.kx (fun k hk => hb.block k hk.2) (fun _ hk => ⟨hk.1, Nat.lt_of_lt_of_le hk.2 hb.size⟩), h.med⟩
theorem TrAt.step {w W W' : World} {g2 g4 gF gS : Nat} {P X : List Gen} {A B : Option Addr} {c d : Nat} {rest rest' : List Elt} (h : TrAt w g2 g4 gF gS P X A B c d rest W) (hx : Ex gF W W') (hf : FAtB W' gF gF rest') : TrAt w g2 g4 gF gS P X A B c d rest' W' :=
 have hn : ∀ k, Btw (gS + 1) W.heap.size k → W'.heap[k]? = W.heap[k]? := fun k hk => hx.at_ hk.2 (by have := h.o3; have := hk.1; omega)
 ⟨h.b.step hx h.o2, h.o2, h.o3, h.s.ex hx (by have := h.o3; omega), hf, (Sl.ok RGen.ok).mono h.kp hn (fun _ hk => ⟨hk.1, Nat.lt_of_lt_of_le hk.2 hx.size⟩), (Sl.ok RGen.ok).mono h.kx hn (fun _ hk => ⟨hk.1, Nat.lt_of_lt_of_le hk.2 hx.size⟩), h.med⟩
theorem sl_set {w : World} {S : Nat → Prop} {g j : Nat} {l : List Gen} {v : Value} (h : Sl RGen 3 w S l [v]) (hS : ∀ k, S k → k ≠ g) (u : Value) : Sl RGen 3 (w.setCell ⟨g, j, none⟩ u) S l [v] :=
 (Sl.ok RGen.ok).mono h (fun k hk => Below.heap_setCell w ⟨g, j, none⟩ u k (hS k hk)) (fun _ hk => hk)
theorem TrAt.setP {w W : World} {g2 g4 gF gS : Nat} {P P' X : List Gen} {A A' B : Option Addr} {c c' d : Nat} {rest : List Elt} (h : TrAt w g2 g4 gF gS P X A B c d rest W) (hk : Sl RGen 3 W (Btw (gS + 1) W.heap.size) P' [.slice A' P'.length c']) (hm : MedGs (P' ++ X)) :
  TrAt w g2 g4 gF gS P' X A' B c' d rest (W.setCell ⟨gS, 0, none⟩ (.slice A' P'.length c')) := by
 have o2 := h.o2
 have o3 := h.o3
 have hne : ∀ k, Btw (gS + 1) W.heap.size k → k ≠ gS := fun k hk => by have := hk.1; omega
 exact ⟨h.b.set (by omega) _, o2, o3, h.s.store0 _, h.f.set (by omega) (by omega) _, by rw [World.size_setCell]; exact sl_set hk hne _, by rw [World.size_setCell]; exact sl_set h.kx hne _, hm⟩
theorem TrAt.setX {w W : World} {g2 g4 gF gS : Nat} {P X X' : List Gen} {A B B' : Option Addr} {c d d' : Nat} {rest : List Elt} (h : TrAt w g2 g4 gF gS P X A B c d rest W) (hk : Sl RGen 3 W (Btw (gS + 1) W.heap.size) X' [.slice B' X'.length d']) (hm : MedGs (P ++ X')) :
  TrAt w g2 g4 gF gS P X' A B' c d' rest (W.setCell ⟨gS, 1, none⟩ (.slice B' X'.length d')) := by
 have o2 := h.o2
 have o3 := h.o3
 have hne : ∀ k, Btw (gS + 1) W.heap.size k → k ≠ gS := fun k hk => by have := hk.1; omega
 exact ⟨h.b.set (by omega) _, o2, o3, h.s.store1 _, h.f.set (by omega) (by omega) _, by rw [World.size_setCell]; exact sl_set h.kp hne _, by rw [World.size_setCell]; exact sl_set hk hne _, hm⟩
theorem partD_may : ∀ (L : List Elt) (t : Nat), partD t L = match (mayF L (t : Int)).1 with
    | none => .ok ([], (mayF L (t : Int)).2)
    | some x => partR (mayF L (t : Int)).2 (decP2 x.2.1)
  | [], _ => rfl
  | x :: r, t => by
    by_cases h : x.1 = t
    · rw [partD, if_pos h, mayF, if_pos (by rw [h])]
    · rw [partD, if_neg h, mayF, if_neg (by omega)]
theorem mayF_mem {L : List Elt} {t : Int} {x : Elt} {r : List Elt} (h : mayF L t = (some x, r)) : x ∈ L := by
  match L, h with
  | [], h => cases h
  | a :: q, h =>
    rw [mayF] at h
    split at h
    · simp only [Prod.mk.injEq, Option.some.injEq] at h; rw [h.1]; simp
    · cases h
theorem mayF_rest {L : List Elt} {t : Int} {m : Option Elt} {r : List Elt} (h : mayF L t = (m, r)) : ∀ x ∈ r, x ∈ L := fun x hx => by
  match L, h with
  | [], h => cases h; cases hx
  | a :: q, h =>
    rw [mayF] at h
    split at h
    · simp only [Prod.mk.injEq] at h; rw [← h.2] at hx; simp [hx]
    · simp only [Prod.mk.injEq] at h; rw [← h.2] at hx; exact hx
set_option maxRecDepth 100000 in
set_option maxHeartbeats 16000000 in
theorem rDecodeS_any (s : ByteArray) (hs : s.size ≤ 100000000) (w : World) (hmx : Mx w) (htb : Tb w) :
    Calls Tryz.prog 32 #[.string s] w (DecSPost w (toS (decS s.data.toList))) := by
  obtain ⟨r, hr⟩ : ∃ r, decS s.data.toList = r := ⟨_, rfl⟩
  rw [hr]
  obtain ⟨oe, hoe⟩ : ∃ o, oneF s.data.toList = o := ⟨_, rfl⟩
  have HRO := hide (show r = decSO oe by rw [← hr, decS, hoe])
  have HOE := hide hoe
  have HMX := hide hmx
  have HTB := hide htb
  obtain ⟨W0, hW0⟩ : ∃ W, W = (w.alloc (.cells #[.slice none 0 0, .slice none 0 0] 52)).alloc (.cells #[.slice none 0 0, .slice none 0 0] 52) := ⟨_, rfl⟩
  obtain ⟨g2, hg2⟩ : ∃ g, g = w.heap.size := ⟨_, rfl⟩
  obtain ⟨g4, hg4⟩ : ∃ g, g = w.heap.size + 1 := ⟨_, rfl⟩
  have HBA0 := hide (show BAt w g2 g4 W0 from by
    refine ⟨by rw [hW0]; exact ((Below.refl _ _).alloc (Nat.le_refl _) _).alloc (by simp) _, by omega, by omega, ?_, ?_⟩
    · rw [hg2, hW0]; unfold SB
      rw [Below.heap_alloc _ _ _ (by simp)]
      exact heap_alloc_new w _
    · rw [hg4, hW0]; unfold SB
      rw [show w.heap.size + 1 = (w.alloc (.cells #[.slice none 0 0, .slice none 0 0] 52)).heap.size by simp]
      exact heap_alloc_new _ _)
  have hz0 : W0.heap.size = w.heap.size + 2 := by rw [hW0]; simp
  have h4z : g4 < W0.heap.size := by omega
  have HG2 := hide hg2
  have HG4 := hide hg4
  clear hr hoe hmx htb hg2 hg4 hz0
  go_enter Tryz.func32, Tryz.ntmps32
  go_upto_region 2 with fail
  rw [← hW0]
  try rw [← HG4.out]
  try rw [← HG2.out]
  clear hW0
  go_wp2_with fail
  refine (rOne_any s (by omega) _).mono ?_
  rintro e w1 ⟨rfl, hb1⟩
  rw [HOE.out]
  have HBA1 := hide (HBA0.out.grow hb1)
  have h4w1 : g4 < w1.heap.size := by have := hb1.size; omega
  clear hb1
  cases oe with
  | error k =>
    have hk : k ≠ 0 := fun h => one_err0 _ (h ▸ HOE.out)
    have ht2 : (k != 0) = true := by simpa using hk
    have HN := hide (show r = .error k from HRO.out)
    rw [show oneR (.error k) = .tuple #[.agg #[.int .i64 0, .string ⟨#[]⟩, .string ⟨#[]⟩], .int .i64 k] from rfl]
    have hsB := HBA1.out.grow ((Below.refl w1.heap.size w1).alloc (Nat.le_refl _) (.cells #[.int .i64 0, .string ⟨#[]⟩, .string ⟨#[]⟩] 72))
    go_upto_region 3 with fail
    obtain ⟨wB, hwB⟩ : ∃ W, W = w1.alloc (.cells #[.int .i64 0, .string ⟨#[]⟩, .string ⟨#[]⟩] 72) := ⟨_, rfl⟩
    rw [← hwB] at hsB ⊢
    clear hk hwB
    obtain ⟨n0, n1, -, -⟩ := (hsB).n4.facts
    obtain ⟨m0, m1, k0, k1⟩ := (hsB).n2.facts
    go_wp2_with fail
    have hst := (hsB).n2.store (.slice none 0 0) (.slice none 0 0)
    have hbz := ((hsB).base.setCell (p := ⟨g2, 0, none⟩) (hsB).lo (.slice none 0 0)).setCell (p := ⟨g2, 1, none⟩) (hsB).lo (.slice none 0 0)
    obtain ⟨W3, hW3⟩ : ∃ W3, W3 = (wB.setCell ⟨g2, 0, none⟩ (.slice none 0 0)).setCell ⟨g2, 1, none⟩ (.slice none 0 0) := ⟨_, rfl⟩
    rw [← hW3] at hst hbz ⊢
    obtain ⟨q8, q9, -, -⟩ := hst.facts
    exact bodyPost_ret (v := .tuple #[.agg #[.slice none 0 0, .slice none 0 0], .int .i64 k]) (by simp [results, Tryz.results32, go_sem, q8, q9]) rfl (DecSPost.err HN.out rfl hbz)
  | ok ee =>
    obtain ⟨t, c, raw⟩ := ee
    have hcl := (one_is_wrap HOE.out).2.2.1
    simp only at hcl
    obtain ⟨x1, hx1⟩ : ∃ x : ByteArray, x = ⟨c.toArray⟩ := ⟨_, rfl⟩
    obtain ⟨x2, hx2⟩ : ∃ x : ByteArray, x = ⟨raw.toArray⟩ := ⟨_, rfl⟩
    have hx1d : c = x1.data.toList := by rw [hx1]
    rw [show oneR (.ok (t, c, raw)) = .tuple #[.agg #[.int .i64 (t : Int), .string x1, .string x2], .int .i64 0] by rw [oneR, eltV, hx1, hx2]]
    obtain ⟨ol, hol⟩ : ∃ o, openF (t : Int) 48 x1.data.toList = o := ⟨_, rfl⟩
    have HR0 := hide (show r = decSG ol by rw [HRO.out, ← hol, ← hx1d]; rfl)
    have HOL := hide hol
    rw [hx1d, size_string] at hcl
    obtain ⟨wA, hwA⟩ : ∃ W, W = w1.alloc (.cells #[.int .i64 (t : Int), .string x1, .string x2] 72) := ⟨_, rfl⟩
    have n0 : wA.cell? ⟨w1.heap.size, 0, none⟩ = some (.int .i64 (t : Int)) := by rw [hwA, World.cell?_alloc_new]; rfl
    have n1 : wA.cell? ⟨w1.heap.size, 1, none⟩ = some (.string x1) := by rw [hwA, World.cell?_alloc_new]; rfl
    have n2 : wA.cell? ⟨w1.heap.size, 2, none⟩ = some (.string x2) := by rw [hwA, World.cell?_alloc_new]; rfl
    have hbA : Below w1.heap.size w1 wA := by rw [hwA]; exact (Below.refl _ _).alloc (Nat.le_refl _) _
    have HBAA := hide (HBA1.out.grow hbA)
    have h4wA : g4 < wA.heap.size := by have := hbA.size; omega
    clear hx1 hx2 hx1d hol hbA
    go_upto_region 3 with fail
    rw [← hwA]
    clear hwA
    go_wp2_with fail
    refine (Open_any (t : Int) 48 x1 x2 (by omega) _).mono ?_
    rintro e wL ⟨hbL, hres⟩
    rw [HOL.out] at hres
    have HBAL := hide (HBAA.out.grow hbL)
    have h4wL : g4 < wL.heap.size := by have := hbL.size; omega
    clear hbL n0 n1 n2
    cases ol with
    | error k =>
      obtain rfl : e = _ := hres
      have hk : k ≠ 0 := fun h => openF_err0 (h ▸ HOL.out)
      have ht2 : (k != 0) = true := by simpa using hk
      have HN := hide (show r = .error k from HR0.out)
      have hsB := HBAL.out.grow ((Below.refl wL.heap.size wL).alloc (Nat.le_refl _) (.cells #[.slice none 0 0, .int .i64 0] 120))
      go_upto_region 6 with fail
      obtain ⟨wB, hwB⟩ : ∃ W, W = wL.alloc (.cells #[.slice none 0 0, .int .i64 0] 120) := ⟨_, rfl⟩
      rw [← hwB] at hsB ⊢
      clear hk hwB
      obtain ⟨n0, n1, -, -⟩ := (hsB).n4.facts
      obtain ⟨m0, m1, k0, k1⟩ := (hsB).n2.facts
      go_wp2_with fail
      have hst := (hsB).n2.store (.slice none 0 0) (.slice none 0 0)
      have hbz := ((hsB).base.setCell (p := ⟨g2, 0, none⟩) (hsB).lo (.slice none 0 0)).setCell (p := ⟨g2, 1, none⟩) (hsB).lo (.slice none 0 0)
      obtain ⟨W3, hW3⟩ : ∃ W3, W3 = (wB.setCell ⟨g2, 0, none⟩ (.slice none 0 0)).setCell ⟨g2, 1, none⟩ (.slice none 0 0) := ⟨_, rfl⟩
      rw [← hW3] at hst hbz ⊢
      obtain ⟨q8, q9, -, -⟩ := hst.facts
      exact bodyPost_ret (v := .tuple #[.agg #[.slice none 0 0, .slice none 0 0], .int .i64 k]) (by simp [results, Tryz.results32, go_sem, q8, q9]) rfl (DecSPost.err HN.out rfl hbz)
    | ok L =>
      obtain ⟨A, cp, rfl, hsl⟩ := hres
      have hLL : listF x1.data.toList = .ok L := by
        have := HOL.out
        rw [openF] at this
        split at this
        · cases this
        · exact this
      have HMB := hide (fun (e : Elt) (he : e ∈ L) => (list_is_wrap _ _ _ (Nat.le_refl _) hLL e he).2.2.1)
      obtain ⟨wF, hwF⟩ : ∃ W, W = wL.alloc (.cells #[.slice A L.length cp, .int .i64 0] 120) := ⟨_, rfl⟩
      have hf := FAtB.new hsl hwF
      have hbF : Below wL.heap.size wL wF := by rw [hwF]; exact (Below.refl _ _).alloc (Nat.le_refl _) _
      have hzF : wF.heap.size = wL.heap.size + 1 := by rw [hwF]; simp
      obtain ⟨wS, hwS⟩ : ∃ W, W = wF.alloc (.cells #[.slice none 0 0, .slice none 0 0] 52) := ⟨_, rfl⟩
      have hbS : Below wF.heap.size wF wS := by rw [hwS]; exact (Below.refl _ _).alloc (Nat.le_refl _) _
      have hsS : SB wF.heap.size (.slice none 0 0) (.slice none 0 0) wS := by rw [hwS]; exact heap_alloc_new _ _
      obtain ⟨gF, hgF⟩ : ∃ g, g = wL.heap.size := ⟨_, rfl⟩
      obtain ⟨gS, hgS⟩ : ∃ g, g = wL.heap.size + 1 := ⟨_, rfl⟩
      rw [← hgF] at hf
      rw [hzF, ← hgS] at hsS
      obtain ⟨E0, hE0⟩ : ∃ l : List Gen, l = [] := ⟨_, rfl⟩
      have HE0 := hide hE0
      have HD0 := hide (show TrAt w g2 g4 gF gS E0 E0 none none 0 0 L wS by rw [hE0]; exact ⟨(HBAL.out.grow hbF).grow hbS, by omega, by omega, hsS, hf.grow hbS, Sl.nil _ _ _ _, Sl.nil _ _ _ _, fun g hg => by cases hg⟩)
      clear hE0
      have HR1 := hide (show r = decSP (partD 160 L) from HR0.out)
      have HGF := hide hgF
      have HGS := hide hgS
      have HWF := hide hwF
      have HWS := hide hwS
      clear hf hbF hbS hsS hgF hgS hzF hsl hLL hwF hwS
      go_upto_region 9 with fail
      rw [← HWF.out, ← HWS.out]
      try rw [HWF.out, World.size_alloc]
      try rw [← HGS.out]
      try rw [← HGF.out]
      go_wp2_with fail
      refine (MayB_any gF gF L 160 _ HD0.out.f).mono ?_
      rintro e wx ⟨rfl, hfx, hxx⟩
      have hDx := HD0.out.step hxx hfx
      have hpm := partD_may L 160
      rw [show (((160 : Nat) : Int)) = 160 from rfl] at hpm
      obtain ⟨⟨mo, mr⟩, hm⟩ : ∃ m, mayF L (160 : Int) = m := ⟨_, rfl⟩
      rw [hm] at hDx hpm ⊢
      simp only at hDx hpm ⊢
      have HRx := hide (HR1.out.trans (congrArg decSP hpm))
      have mrM := mayF_rest hm
      have hmem := fun x (h : mo = some x) => mayF_mem (show mayF L 160 = (some x, mr) by rw [hm, h])
      have HMR := hide mrM
      have HME := hide hmem
      clear hfx hxx hpm hm hmem mrM
      cases mo with
      | none =>
        rw [show mayR none = .tuple #[.agg #[.int .i64 0, .string ⟨#[]⟩, .string ⟨#[]⟩], .bool false] from rfl]
        have HDy := hide (hDx.grow ((Below.refl wx.heap.size wx).alloc (Nat.le_refl _) (.cells #[.int .i64 0, .string ⟨#[]⟩, .string ⟨#[]⟩] 72)))
        have HR9 := hide (show r = decSX E0 (partD 161 mr) by rw [HE0.out]; exact HRx.out)
        clear hDx
        go_upto_region 10 with fail
        obtain ⟨wy, hwy⟩ : ∃ W, W = wx.alloc (.cells #[.int .i64 0, .string ⟨#[]⟩, .string ⟨#[]⟩] 72) := ⟨_, rfl⟩
        rw [← hwy] at HDy ⊢
        clear hwy
        obtain ⟨wu, rfl⟩ : ∃ W : World, W = wx := ⟨_, rfl⟩
        -- HR : r = decSX P (partD 161 L2); HD at the world in sight
        go_wp2_with fail
        refine (MayB_any gF gF mr 161 _ HDy.out.f).mono ?_
        rintro e wx ⟨rfl, hfx, hxx⟩
        have hDx := HDy.out.step hxx hfx
        have hpm := partD_may mr 161
        rw [show (((161 : Nat) : Int)) = 161 from rfl] at hpm
        obtain ⟨⟨mo2, mr2⟩, hm2⟩ : ∃ m, mayF mr (161 : Int) = m := ⟨_, rfl⟩
        rw [hm2] at hDx hpm ⊢
        simp only at hDx hpm ⊢
        have HRx := hide (HR9.out.trans (congrArg (decSX E0) hpm))
        have HM2 := hide hm2
        clear hfx hxx hpm hm2
        cases mo2 with
        | none =>
          rw [show mayR none = .tuple #[.agg #[.int .i64 0, .string ⟨#[]⟩, .string ⟨#[]⟩], .bool false] from rfl]
          have HDy := hide (hDx.grow ((Below.refl wx.heap.size wx).alloc (Nat.le_refl _) (.cells #[.int .i64 0, .string ⟨#[]⟩, .string ⟨#[]⟩] 72)))
          clear hDx
          go_upto_region 15 with fail
          obtain ⟨wy, hwy⟩ : ∃ W, W = wx.alloc (.cells #[.int .i64 0, .string ⟨#[]⟩, .string ⟨#[]⟩] 72) := ⟨_, rfl⟩
          rw [← hwy] at HDy ⊢
          clear hwy
          have HRy := hide (show r = decSX E0 (.ok (E0, mr2)) from HRx.out.trans (congrArg (fun z => decSX E0 (.ok (z, mr2))) HE0.out.symm))
          -- HR : r = decSX P (.ok (X, rest)); HD : TrAt .. rest at wn
          go_wp2_with fail
          refine (End_any gF mr2 _ HDy.out.f.fat).mono ?_
          rintro e w20 ⟨rfl, n20, hw20⟩
          have hD20 := HDy.out.grow (show Below wy.heap.size wy w20 by rw [hw20]; exact below_drewN (Below.refl _ _) n20)
          clear hw20
          by_cases hrest : mr2 = []
          · rw [if_pos hrest]
            have HR2 := hide (show r = decSC (E0, E0) by rw [HRy.out, decSX, if_neg (by simpa using hrest)])
            obtain ⟨q, hq⟩ : ∃ q, chkS (E0, E0) = q := ⟨_, rfl⟩
            have HQ := hide hq
            have HD20 := hide hD20
            have o1 := hD20.b.o1
            have o2 := hD20.o2
            have o3 := hD20.o3
            have hgS := hD20.s.lt
            have CK := hide (rSCheck_any E0 E0 none none 0 0 hD20.med q hq w20 (HMX.out.below hD20.b.base) ((Sl.ok RGen.ok).mono hD20.kp (fun _ _ => rfl) (fun _ hk => hk.2)) ((Sl.ok RGen.ok).mono hD20.kx (fun _ _ => rfl) (fun _ hk => hk.2)))
            obtain ⟨s0, s1, -, -⟩ := hD20.s.facts
            clear hrest hq hD20
            go_wp2_with fail
            refine CK.out.mono ?_
            rintro e w21 ⟨rfl, hb21⟩
            have HD21 := hide (HD20.out.grow hb21)
            clear hb21 s0 s1
            by_cases hq0 : q = 0
            · have htq : (q != 0) = false := by simp [hq0]
              have HN := hide (show r = .ok (E0, E0) by rw [HR2.out, decSC, if_pos (by rw [HQ.out]; exact hq0)])
              clear hq0
              obtain ⟨s0, s1, -, -⟩ := HD21.out.s.facts
              obtain ⟨m0, m1, k0, k1⟩ := HD21.out.b.n2.facts
              go_wp2_with fail
              have hst := HD21.out.b.n2.store (.slice none E0.length 0) (.slice none E0.length 0)
              have hbz := (HD21.out.b.base.setCell (p := ⟨g2, 0, none⟩) HD21.out.b.lo (.slice none E0.length 0)).setCell (p := ⟨g2, 1, none⟩) HD21.out.b.lo (.slice none E0.length 0)
              have hne : ∀ k, Btw (gS + 1) w21.heap.size k → k ≠ g2 := fun k hk => by have := hk.1; omega
              have hkp := sl_set (g := g2) (j := 1) (sl_set (g := g2) (j := 0) HD21.out.kp hne (.slice none E0.length 0)) hne (.slice none E0.length 0)
              have hkx := sl_set (g := g2) (j := 1) (sl_set (g := g2) (j := 0) HD21.out.kx hne (.slice none E0.length 0)) hne (.slice none E0.length 0)
              have hz3 : ((w21.setCell ⟨g2, 0, none⟩ (.slice none E0.length 0)).setCell ⟨g2, 1, none⟩ (.slice none E0.length 0)).heap.size = w21.heap.size := by simp
              obtain ⟨W3, hW3⟩ : ∃ W3, W3 = (w21.setCell ⟨g2, 0, none⟩ (.slice none E0.length 0)).setCell ⟨g2, 1, none⟩ (.slice none E0.length 0) := ⟨_, rfl⟩
              rw [← hW3] at hst hbz hkp hkx hz3 ⊢
              obtain ⟨q8, q9, -, -⟩ := hst.facts
              exact bodyPost_ret (v := .tuple #[.agg #[.slice none E0.length 0, .slice none E0.length 0], .int .i64 0]) (by simp [results, Tryz.results32, go_sem, q8, q9]) rfl (DecSPost.ok HN.out rfl ((Sl.ok RGen.ok).mono hkp (fun _ _ => rfl) (fun k hk => by show k < _; rw [hz3]; exact hk.2)) ((Sl.ok RGen.ok).mono hkx (fun _ _ => rfl) (fun k hk => by show k < _; rw [hz3]; exact hk.2)) hbz)
            · have htq : (q != 0) = true := by simp [hq0]
              have HN := hide (show r = .error q by rw [HR2.out, decSC, if_neg (by rw [HQ.out]; exact hq0), HQ.out])
              clear hq0
              obtain ⟨n0, n1, -, -⟩ := (HD21.out.b).n4.facts
              obtain ⟨m0, m1, k0, k1⟩ := (HD21.out.b).n2.facts
              go_wp2_with fail
              have hst := (HD21.out.b).n2.store (.slice none 0 0) (.slice none 0 0)
              have hbz := ((HD21.out.b).base.setCell (p := ⟨g2, 0, none⟩) (HD21.out.b).lo (.slice none 0 0)).setCell (p := ⟨g2, 1, none⟩) (HD21.out.b).lo (.slice none 0 0)
              obtain ⟨W3, hW3⟩ : ∃ W3, W3 = (w21.setCell ⟨g2, 0, none⟩ (.slice none 0 0)).setCell ⟨g2, 1, none⟩ (.slice none 0 0) := ⟨_, rfl⟩
              rw [← hW3] at hst hbz ⊢
              obtain ⟨q8, q9, -, -⟩ := hst.facts
              exact bodyPost_ret (v := .tuple #[.agg #[.slice none 0 0, .slice none 0 0], .int .i64 q]) (by simp [results, Tryz.results32, go_sem, q8, q9]) rfl (DecSPost.err HN.out rfl hbz)
          · rw [if_neg hrest]
            have HN := hide (show r = .error 4 by rw [HRy.out, decSX, if_pos hrest])
            have HB20 := hide hD20.b
            clear hrest hD20
            obtain ⟨n0, n1, -, -⟩ := (HB20.out).n4.facts
            obtain ⟨m0, m1, k0, k1⟩ := (HB20.out).n2.facts
            go_wp2_with fail
            have hst := (HB20.out).n2.store (.slice none 0 0) (.slice none 0 0)
            have hbz := ((HB20.out).base.setCell (p := ⟨g2, 0, none⟩) (HB20.out).lo (.slice none 0 0)).setCell (p := ⟨g2, 1, none⟩) (HB20.out).lo (.slice none 0 0)
            obtain ⟨W3, hW3⟩ : ∃ W3, W3 = (w20.setCell ⟨g2, 0, none⟩ (.slice none 0 0)).setCell ⟨g2, 1, none⟩ (.slice none 0 0) := ⟨_, rfl⟩
            rw [← hW3] at hst hbz ⊢
            obtain ⟨q8, q9, -, -⟩ := hst.facts
            exact bodyPost_ret (v := .tuple #[.agg #[.slice none 0 0, .slice none 0 0], .int .i64 4]) (by simp [results, Tryz.results32, go_sem, q8, q9]) rfl (DecSPost.err HN.out rfl hbz)
        | some x =>
          have hxm := HMB.out x (HMR.out x (mayF_mem HM2.out))
          obtain ⟨xt, xc, xw⟩ := x
          simp only at hxm HRx
          obtain ⟨y1, hy1⟩ : ∃ y : ByteArray, y = ⟨xc.toArray⟩ := ⟨_, rfl⟩
          obtain ⟨y2, hy2⟩ : ∃ y : ByteArray, y = ⟨xw.toArray⟩ := ⟨_, rfl⟩
          have hy1d : xc = y1.data.toList := by rw [hy1]
          rw [show mayR (some (xt, xc, xw)) = .tuple #[.agg #[.int .i64 (xt : Int), .string y1, .string y2], .bool true] by rw [mayR, eltV, hy1, hy2]]
          rw [hy1d] at hxm HRx
          rw [size_string] at hxm
          obtain ⟨o5, ho5⟩ : ∃ o, decP2 y1.data.toList = o := ⟨_, rfl⟩
          rw [ho5] at HRx
          have HO5 := hide ho5
          obtain ⟨wy, hwy⟩ : ∃ W, W = wx.alloc (.cells #[.int .i64 (xt : Int), .string y1, .string y2] 72) := ⟨_, rfl⟩
          have z0 : wy.cell? ⟨wx.heap.size, 0, none⟩ = some (.int .i64 (xt : Int)) := by rw [hwy, World.cell?_alloc_new]; rfl
          have z1 : wy.cell? ⟨wx.heap.size, 1, none⟩ = some (.string y1) := by rw [hwy, World.cell?_alloc_new]; rfl
          have z2 : wy.cell? ⟨wx.heap.size, 2, none⟩ = some (.string y2) := by rw [hwy, World.cell?_alloc_new]; rfl
          have HDy := hide (hDx.grow (show Below wx.heap.size wx wy by rw [hwy]; exact (Below.refl _ _).alloc (Nat.le_refl _) _))
          clear hDx hy1 hy2 hy1d ho5 HM2
          go_upto_region 15 with fail
          rw [← hwy]
          clear hwy
          go_wp2_with fail
          refine (trees_any (xt : Int) y1 y2 (by omega) _ (HMX.out.below HDy.out.b.base) (HTB.out.below HDy.out.b.base)).mono ?_
          rintro e w6 ⟨A6, c6, rfl, hsl6, hb6, hmed6⟩
          rw [HO5.out] at hsl6 hmed6 ⊢
          have hD6 := HDy.out.grow hb6
          have hgy := HDy.out.s.lt
          clear z0 z1 z2 hb6
          obtain ⟨s0, s1, k0, k1⟩ := hD6.s.facts
          have hgS4 : g4 < gS := by have := hD6.o2; have := hD6.o3; omega
          cases o5 with
          | error k9 =>
            have hk9 : k9 ≠ 0 := fun h => decP2_err0 _ (h ▸ HO5.out)
            have ht : (k9 != 0) = true := by simpa using hk9
            have HN := hide (show r = .error k9 from HRx.out)
            have HB6 := hide (hD6.b.set (j := 1) hgS4 (.slice A6 0 c6))
            rw [show toGs (.error k9) = (k9, []) from rfl]
            clear hk9 hsl6 hmed6 hD6
            go_upto_region 17 with fail
            obtain ⟨w7, hw7⟩ : ∃ W, W = w6.setCell ⟨gS, 1, none⟩ (.slice A6 0 c6) := ⟨_, rfl⟩
            rw [← hw7] at HB6
            try rw [← hw7]
            clear hw7 s0 s1 k0 k1
            obtain ⟨n0, n1, -, -⟩ := (HB6.out).n4.facts
            obtain ⟨m0, m1, k0, k1⟩ := (HB6.out).n2.facts
            go_wp2_with fail
            have hst := (HB6.out).n2.store (.slice none 0 0) (.slice none 0 0)
            have hbz := ((HB6.out).base.setCell (p := ⟨g2, 0, none⟩) (HB6.out).lo (.slice none 0 0)).setCell (p := ⟨g2, 1, none⟩) (HB6.out).lo (.slice none 0 0)
            obtain ⟨W3, hW3⟩ : ∃ W3, W3 = (w7.setCell ⟨g2, 0, none⟩ (.slice none 0 0)).setCell ⟨g2, 1, none⟩ (.slice none 0 0) := ⟨_, rfl⟩
            rw [← hW3] at hst hbz ⊢
            obtain ⟨q8, q9, -, -⟩ := hst.facts
            exact bodyPost_ret (v := .tuple #[.agg #[.slice none 0 0, .slice none 0 0], .int .i64 k9]) (by simp [results, Tryz.results32, go_sem, q8, q9]) rfl (DecSPost.err HN.out rfl hbz)
          | ok l6 =>
            rw [show toGs (.ok l6) = (0, l6) from rfl] at hsl6 hmed6 ⊢
            simp only at hsl6 hmed6 ⊢
            have HD7 := hide (hD6.setX (X' := l6) (B' := A6) (d' := c6) ((Sl.ok RGen.ok).mono hsl6 (fun _ _ => rfl) (fun k hk => ⟨by have := hk.1; omega, hk.2⟩)) (fun g hg => by
              rcases List.mem_append.1 hg with h | h
              · exact hD6.med g (by simp [h])
              · exact hmed6 g h))
            have HR7 := hide (show r = decSX E0 (.ok (l6, mr2)) from HRx.out)
            clear hsl6 hmed6 hD6
            go_upto_region 17 with fail
            obtain ⟨w7, hw7⟩ : ∃ W, W = w6.setCell ⟨gS, 1, none⟩ (.slice A6 l6.length c6) := ⟨_, rfl⟩
            rw [← hw7] at HD7
            try rw [← hw7]
            clear hw7 s0 s1 k0 k1
            -- HR : r = decSX P (.ok (X, rest)); HD : TrAt .. rest at wn
            go_wp2_with fail
            refine (End_any gF mr2 _ HD7.out.f.fat).mono ?_
            rintro e w20 ⟨rfl, n20, hw20⟩
            have hD20 := HD7.out.grow (show Below w7.heap.size w7 w20 by rw [hw20]; exact below_drewN (Below.refl _ _) n20)
            clear hw20
            by_cases hrest : mr2 = []
            · rw [if_pos hrest]
              have HR2 := hide (show r = decSC (E0, l6) by rw [HR7.out, decSX, if_neg (by simpa using hrest)])
              obtain ⟨q, hq⟩ : ∃ q, chkS (E0, l6) = q := ⟨_, rfl⟩
              have HQ := hide hq
              have HD20 := hide hD20
              have o1 := hD20.b.o1
              have o2 := hD20.o2
              have o3 := hD20.o3
              have hgS := hD20.s.lt
              have CK := hide (rSCheck_any E0 l6 none A6 0 c6 hD20.med q hq w20 (HMX.out.below hD20.b.base) ((Sl.ok RGen.ok).mono hD20.kp (fun _ _ => rfl) (fun _ hk => hk.2)) ((Sl.ok RGen.ok).mono hD20.kx (fun _ _ => rfl) (fun _ hk => hk.2)))
              obtain ⟨s0, s1, -, -⟩ := hD20.s.facts
              clear hrest hq hD20
              go_wp2_with fail
              refine CK.out.mono ?_
              rintro e w21 ⟨rfl, hb21⟩
              have HD21 := hide (HD20.out.grow hb21)
              clear hb21 s0 s1
              by_cases hq0 : q = 0
              · have htq : (q != 0) = false := by simp [hq0]
                have HN := hide (show r = .ok (E0, l6) by rw [HR2.out, decSC, if_pos (by rw [HQ.out]; exact hq0)])
                clear hq0
                obtain ⟨s0, s1, -, -⟩ := HD21.out.s.facts
                obtain ⟨m0, m1, k0, k1⟩ := HD21.out.b.n2.facts
                go_wp2_with fail
                have hst := HD21.out.b.n2.store (.slice none E0.length 0) (.slice A6 l6.length c6)
                have hbz := (HD21.out.b.base.setCell (p := ⟨g2, 0, none⟩) HD21.out.b.lo (.slice none E0.length 0)).setCell (p := ⟨g2, 1, none⟩) HD21.out.b.lo (.slice A6 l6.length c6)
                have hne : ∀ k, Btw (gS + 1) w21.heap.size k → k ≠ g2 := fun k hk => by have := hk.1; omega
                have hkp := sl_set (g := g2) (j := 1) (sl_set (g := g2) (j := 0) HD21.out.kp hne (.slice none E0.length 0)) hne (.slice A6 l6.length c6)
                have hkx := sl_set (g := g2) (j := 1) (sl_set (g := g2) (j := 0) HD21.out.kx hne (.slice none E0.length 0)) hne (.slice A6 l6.length c6)
                have hz3 : ((w21.setCell ⟨g2, 0, none⟩ (.slice none E0.length 0)).setCell ⟨g2, 1, none⟩ (.slice A6 l6.length c6)).heap.size = w21.heap.size := by simp
                obtain ⟨W3, hW3⟩ : ∃ W3, W3 = (w21.setCell ⟨g2, 0, none⟩ (.slice none E0.length 0)).setCell ⟨g2, 1, none⟩ (.slice A6 l6.length c6) := ⟨_, rfl⟩
                rw [← hW3] at hst hbz hkp hkx hz3 ⊢
                obtain ⟨q8, q9, -, -⟩ := hst.facts
                exact bodyPost_ret (v := .tuple #[.agg #[.slice none E0.length 0, .slice A6 l6.length c6], .int .i64 0]) (by simp [results, Tryz.results32, go_sem, q8, q9]) rfl (DecSPost.ok HN.out rfl ((Sl.ok RGen.ok).mono hkp (fun _ _ => rfl) (fun k hk => by show k < _; rw [hz3]; exact hk.2)) ((Sl.ok RGen.ok).mono hkx (fun _ _ => rfl) (fun k hk => by show k < _; rw [hz3]; exact hk.2)) hbz)
              · have htq : (q != 0) = true := by simp [hq0]
                have HN := hide (show r = .error q by rw [HR2.out, decSC, if_neg (by rw [HQ.out]; exact hq0), HQ.out])
                clear hq0
                obtain ⟨n0, n1, -, -⟩ := (HD21.out.b).n4.facts
                obtain ⟨m0, m1, k0, k1⟩ := (HD21.out.b).n2.facts
                go_wp2_with fail
                have hst := (HD21.out.b).n2.store (.slice none 0 0) (.slice none 0 0)
                have hbz := ((HD21.out.b).base.setCell (p := ⟨g2, 0, none⟩) (HD21.out.b).lo (.slice none 0 0)).setCell (p := ⟨g2, 1, none⟩) (HD21.out.b).lo (.slice none 0 0)
                obtain ⟨W3, hW3⟩ : ∃ W3, W3 = (w21.setCell ⟨g2, 0, none⟩ (.slice none 0 0)).setCell ⟨g2, 1, none⟩ (.slice none 0 0) := ⟨_, rfl⟩
                rw [← hW3] at hst hbz ⊢
                obtain ⟨q8, q9, -, -⟩ := hst.facts
                exact bodyPost_ret (v := .tuple #[.agg #[.slice none 0 0, .slice none 0 0], .int .i64 q]) (by simp [results, Tryz.results32, go_sem, q8, q9]) rfl (DecSPost.err HN.out rfl hbz)
            · rw [if_neg hrest]
              have HN := hide (show r = .error 4 by rw [HR7.out, decSX, if_pos hrest])
              have HB20 := hide hD20.b
              clear hrest hD20
              obtain ⟨n0, n1, -, -⟩ := (HB20.out).n4.facts
              obtain ⟨m0, m1, k0, k1⟩ := (HB20.out).n2.facts
              go_wp2_with fail
              have hst := (HB20.out).n2.store (.slice none 0 0) (.slice none 0 0)
              have hbz := ((HB20.out).base.setCell (p := ⟨g2, 0, none⟩) (HB20.out).lo (.slice none 0 0)).setCell (p := ⟨g2, 1, none⟩) (HB20.out).lo (.slice none 0 0)
              obtain ⟨W3, hW3⟩ : ∃ W3, W3 = (w20.setCell ⟨g2, 0, none⟩ (.slice none 0 0)).setCell ⟨g2, 1, none⟩ (.slice none 0 0) := ⟨_, rfl⟩
              rw [← hW3] at hst hbz ⊢
              obtain ⟨q8, q9, -, -⟩ := hst.facts
              exact bodyPost_ret (v := .tuple #[.agg #[.slice none 0 0, .slice none 0 0], .int .i64 4]) (by simp [results, Tryz.results32, go_sem, q8, q9]) rfl (DecSPost.err HN.out rfl hbz)
      | some x =>
        have hxm := HMB.out x (HME.out x rfl)
        obtain ⟨xt, xc, xw⟩ := x
        simp only at hxm HRx
        obtain ⟨y1, hy1⟩ : ∃ y : ByteArray, y = ⟨xc.toArray⟩ := ⟨_, rfl⟩
        obtain ⟨y2, hy2⟩ : ∃ y : ByteArray, y = ⟨xw.toArray⟩ := ⟨_, rfl⟩
        have hy1d : xc = y1.data.toList := by rw [hy1]
        rw [show mayR (some (xt, xc, xw)) = .tuple #[.agg #[.int .i64 (xt : Int), .string y1, .string y2], .bool true] by rw [mayR, eltV, hy1, hy2]]
        rw [hy1d] at hxm HRx
        rw [size_string] at hxm
        obtain ⟨o5, ho5⟩ : ∃ o, decP2 y1.data.toList = o := ⟨_, rfl⟩
        rw [ho5] at HRx
        have HO5 := hide ho5
        obtain ⟨wy, hwy⟩ : ∃ W, W = wx.alloc (.cells #[.int .i64 (xt : Int), .string y1, .string y2] 72) := ⟨_, rfl⟩
        have z0 : wy.cell? ⟨wx.heap.size, 0, none⟩ = some (.int .i64 (xt : Int)) := by rw [hwy, World.cell?_alloc_new]; rfl
        have z1 : wy.cell? ⟨wx.heap.size, 1, none⟩ = some (.string y1) := by rw [hwy, World.cell?_alloc_new]; rfl
        have z2 : wy.cell? ⟨wx.heap.size, 2, none⟩ = some (.string y2) := by rw [hwy, World.cell?_alloc_new]; rfl
        have HDy := hide (hDx.grow (show Below wx.heap.size wx wy by rw [hwy]; exact (Below.refl _ _).alloc (Nat.le_refl _) _))
        clear hDx hy1 hy2 hy1d ho5 HME
        go_upto_region 10 with fail
        rw [← hwy]
        clear hwy
        go_wp2_with fail
        refine (trees_any (xt : Int) y1 y2 (by omega) _ (HMX.out.below HDy.out.b.base) (HTB.out.below HDy.out.b.base)).mono ?_
        rintro e w6 ⟨A6, c6, rfl, hsl6, hb6, hmed6⟩
        rw [HO5.out] at hsl6 hmed6 ⊢
        have hD6 := HDy.out.grow hb6
        have hgy := HDy.out.s.lt
        clear z0 z1 z2 hb6
        obtain ⟨s0, s1, k0, k1⟩ := hD6.s.facts
        have hgS4 : g4 < gS := by have := hD6.o2; have := hD6.o3; omega
        cases o5 with
        | error k9 =>
          have hk9 : k9 ≠ 0 := fun h => decP2_err0 _ (h ▸ HO5.out)
          have ht : (k9 != 0) = true := by simpa using hk9
          have HN := hide (show r = .error k9 from HRx.out)
          have HB6 := hide (hD6.b.set (j := 0) hgS4 (.slice A6 0 c6))
          rw [show toGs (.error k9) = (k9, []) from rfl]
          clear hk9 hsl6 hmed6 hD6
          go_upto_region 12 with fail
          obtain ⟨w7, hw7⟩ : ∃ W, W = w6.setCell ⟨gS, 0, none⟩ (.slice A6 0 c6) := ⟨_, rfl⟩
          rw [← hw7] at HB6
          try rw [← hw7]
          clear hw7 s0 s1 k0 k1
          obtain ⟨n0, n1, -, -⟩ := (HB6.out).n4.facts
          obtain ⟨m0, m1, k0, k1⟩ := (HB6.out).n2.facts
          go_wp2_with fail
          have hst := (HB6.out).n2.store (.slice none 0 0) (.slice none 0 0)
          have hbz := ((HB6.out).base.setCell (p := ⟨g2, 0, none⟩) (HB6.out).lo (.slice none 0 0)).setCell (p := ⟨g2, 1, none⟩) (HB6.out).lo (.slice none 0 0)
          obtain ⟨W3, hW3⟩ : ∃ W3, W3 = (w7.setCell ⟨g2, 0, none⟩ (.slice none 0 0)).setCell ⟨g2, 1, none⟩ (.slice none 0 0) := ⟨_, rfl⟩
          rw [← hW3] at hst hbz ⊢
          obtain ⟨q8, q9, -, -⟩ := hst.facts
          exact bodyPost_ret (v := .tuple #[.agg #[.slice none 0 0, .slice none 0 0], .int .i64 k9]) (by simp [results, Tryz.results32, go_sem, q8, q9]) rfl (DecSPost.err HN.out rfl hbz)
        | ok l5 =>
          rw [show toGs (.ok l5) = (0, l5) from rfl] at hsl6 hmed6 ⊢
          simp only at hsl6 hmed6 ⊢
          have HD7 := hide (hD6.setP (P' := l5) (A' := A6) (c' := c6) ((Sl.ok RGen.ok).mono hsl6 (fun _ _ => rfl) (fun k hk => ⟨by have := hk.1; omega, hk.2⟩)) (fun g hg => by
            rcases List.mem_append.1 hg with h | h
            · exact hmed6 g h
            · exact hD6.med g (by simp [h])))
          have HR9 := hide (show r = decSX l5 (partD 161 mr) from HRx.out)
          clear hsl6 hmed6 hD6
          go_upto_region 12 with fail
          obtain ⟨w7, hw7⟩ : ∃ W, W = w6.setCell ⟨gS, 0, none⟩ (.slice A6 l5.length c6) := ⟨_, rfl⟩
          rw [← hw7] at HD7
          try rw [← hw7]
          clear hw7 s0 s1 k0 k1
          obtain ⟨A5, hA5⟩ : ∃ A, A = A6 := ⟨_, rfl⟩
          obtain ⟨c5, hc5⟩ : ∃ c, c = c6 := ⟨_, rfl⟩
          rw [← hA5, ← hc5] at HD7
          try rw [← hA5]
          try rw [← hc5]
          clear hA5 hc5
          obtain ⟨wu, rfl⟩ : ∃ W : World, W = wx := ⟨_, rfl⟩
          obtain ⟨w8, rfl⟩ : ∃ W : World, W = w7 := ⟨_, rfl⟩
          -- HR : r = decSX P (partD 161 L2); HD at the world in sight
          go_wp2_with fail
          refine (MayB_any gF gF mr 161 _ HD7.out.f).mono ?_
          rintro e wx ⟨rfl, hfx, hxx⟩
          have hDx := HD7.out.step hxx hfx
          have hpm := partD_may mr 161
          rw [show (((161 : Nat) : Int)) = 161 from rfl] at hpm
          obtain ⟨⟨mo2, mr2⟩, hm2⟩ : ∃ m, mayF mr (161 : Int) = m := ⟨_, rfl⟩
          rw [hm2] at hDx hpm ⊢
          simp only at hDx hpm ⊢
          have HRx := hide (HR9.out.trans (congrArg (decSX l5) hpm))
          have HM2 := hide hm2
          clear hfx hxx hpm hm2
          cases mo2 with
          | none =>
            rw [show mayR none = .tuple #[.agg #[.int .i64 0, .string ⟨#[]⟩, .string ⟨#[]⟩], .bool false] from rfl]
            have HDy := hide (hDx.grow ((Below.refl wx.heap.size wx).alloc (Nat.le_refl _) (.cells #[.int .i64 0, .string ⟨#[]⟩, .string ⟨#[]⟩] 72)))
            clear hDx
            go_upto_region 15 with fail
            obtain ⟨wy, hwy⟩ : ∃ W, W = wx.alloc (.cells #[.int .i64 0, .string ⟨#[]⟩, .string ⟨#[]⟩] 72) := ⟨_, rfl⟩
            rw [← hwy] at HDy ⊢
            clear hwy
            have HRy := hide (show r = decSX l5 (.ok (E0, mr2)) from HRx.out.trans (congrArg (fun z => decSX l5 (.ok (z, mr2))) HE0.out.symm))
            -- HR : r = decSX P (.ok (X, rest)); HD : TrAt .. rest at wn
            go_wp2_with fail
            refine (End_any gF mr2 _ HDy.out.f.fat).mono ?_
            rintro e w20 ⟨rfl, n20, hw20⟩
            have hD20 := HDy.out.grow (show Below wy.heap.size wy w20 by rw [hw20]; exact below_drewN (Below.refl _ _) n20)
            clear hw20
            by_cases hrest : mr2 = []
            · rw [if_pos hrest]
              have HR2 := hide (show r = decSC (l5, E0) by rw [HRy.out, decSX, if_neg (by simpa using hrest)])
              obtain ⟨q, hq⟩ : ∃ q, chkS (l5, E0) = q := ⟨_, rfl⟩
              have HQ := hide hq
              have HD20 := hide hD20
              have o1 := hD20.b.o1
              have o2 := hD20.o2
              have o3 := hD20.o3
              have hgS := hD20.s.lt
              have CK := hide (rSCheck_any l5 E0 A5 none c5 0 hD20.med q hq w20 (HMX.out.below hD20.b.base) ((Sl.ok RGen.ok).mono hD20.kp (fun _ _ => rfl) (fun _ hk => hk.2)) ((Sl.ok RGen.ok).mono hD20.kx (fun _ _ => rfl) (fun _ hk => hk.2)))
              obtain ⟨s0, s1, -, -⟩ := hD20.s.facts
              clear hrest hq hD20
              go_wp2_with fail
              refine CK.out.mono ?_
              rintro e w21 ⟨rfl, hb21⟩
              have HD21 := hide (HD20.out.grow hb21)
              clear hb21 s0 s1
              by_cases hq0 : q = 0
              · have htq : (q != 0) = false := by simp [hq0]
                have HN := hide (show r = .ok (l5, E0) by rw [HR2.out, decSC, if_pos (by rw [HQ.out]; exact hq0)])
                clear hq0
                obtain ⟨s0, s1, -, -⟩ := HD21.out.s.facts
                obtain ⟨m0, m1, k0, k1⟩ := HD21.out.b.n2.facts
                go_wp2_with fail
                have hst := HD21.out.b.n2.store (.slice A5 l5.length c5) (.slice none E0.length 0)
                have hbz := (HD21.out.b.base.setCell (p := ⟨g2, 0, none⟩) HD21.out.b.lo (.slice A5 l5.length c5)).setCell (p := ⟨g2, 1, none⟩) HD21.out.b.lo (.slice none E0.length 0)
                have hne : ∀ k, Btw (gS + 1) w21.heap.size k → k ≠ g2 := fun k hk => by have := hk.1; omega
                have hkp := sl_set (g := g2) (j := 1) (sl_set (g := g2) (j := 0) HD21.out.kp hne (.slice A5 l5.length c5)) hne (.slice none E0.length 0)
                have hkx := sl_set (g := g2) (j := 1) (sl_set (g := g2) (j := 0) HD21.out.kx hne (.slice A5 l5.length c5)) hne (.slice none E0.length 0)
                have hz3 : ((w21.setCell ⟨g2, 0, none⟩ (.slice A5 l5.length c5)).setCell ⟨g2, 1, none⟩ (.slice none E0.length 0)).heap.size = w21.heap.size := by simp
                obtain ⟨W3, hW3⟩ : ∃ W3, W3 = (w21.setCell ⟨g2, 0, none⟩ (.slice A5 l5.length c5)).setCell ⟨g2, 1, none⟩ (.slice none E0.length 0) := ⟨_, rfl⟩
                rw [← hW3] at hst hbz hkp hkx hz3 ⊢
                obtain ⟨q8, q9, -, -⟩ := hst.facts
                exact bodyPost_ret (v := .tuple #[.agg #[.slice A5 l5.length c5, .slice none E0.length 0], .int .i64 0]) (by simp [results, Tryz.results32, go_sem, q8, q9]) rfl (DecSPost.ok HN.out rfl ((Sl.ok RGen.ok).mono hkp (fun _ _ => rfl) (fun k hk => by show k < _; rw [hz3]; exact hk.2)) ((Sl.ok RGen.ok).mono hkx (fun _ _ => rfl) (fun k hk => by show k < _; rw [hz3]; exact hk.2)) hbz)
              · have htq : (q != 0) = true := by simp [hq0]
                have HN := hide (show r = .error q by rw [HR2.out, decSC, if_neg (by rw [HQ.out]; exact hq0), HQ.out])
                clear hq0
                obtain ⟨n0, n1, -, -⟩ := (HD21.out.b).n4.facts
                obtain ⟨m0, m1, k0, k1⟩ := (HD21.out.b).n2.facts
                go_wp2_with fail
                have hst := (HD21.out.b).n2.store (.slice none 0 0) (.slice none 0 0)
                have hbz := ((HD21.out.b).base.setCell (p := ⟨g2, 0, none⟩) (HD21.out.b).lo (.slice none 0 0)).setCell (p := ⟨g2, 1, none⟩) (HD21.out.b).lo (.slice none 0 0)
                obtain ⟨W3, hW3⟩ : ∃ W3, W3 = (w21.setCell ⟨g2, 0, none⟩ (.slice none 0 0)).setCell ⟨g2, 1, none⟩ (.slice none 0 0) := ⟨_, rfl⟩
                rw [← hW3] at hst hbz ⊢
                obtain ⟨q8, q9, -, -⟩ := hst.facts
                exact bodyPost_ret (v := .tuple #[.agg #[.slice none 0 0, .slice none 0 0], .int .i64 q]) (by simp [results, Tryz.results32, go_sem, q8, q9]) rfl (DecSPost.err HN.out rfl hbz)
            · rw [if_neg hrest]
              have HN := hide (show r = .error 4 by rw [HRy.out, decSX, if_pos hrest])
              have HB20 := hide hD20.b
              clear hrest hD20
              obtain ⟨n0, n1, -, -⟩ := (HB20.out).n4.facts
              obtain ⟨m0, m1, k0, k1⟩ := (HB20.out).n2.facts
              go_wp2_with fail
              have hst := (HB20.out).n2.store (.slice none 0 0) (.slice none 0 0)
              have hbz := ((HB20.out).base.setCell (p := ⟨g2, 0, none⟩) (HB20.out).lo (.slice none 0 0)).setCell (p := ⟨g2, 1, none⟩) (HB20.out).lo (.slice none 0 0)
              obtain ⟨W3, hW3⟩ : ∃ W3, W3 = (w20.setCell ⟨g2, 0, none⟩ (.slice none 0 0)).setCell ⟨g2, 1, none⟩ (.slice none 0 0) := ⟨_, rfl⟩
              rw [← hW3] at hst hbz ⊢
              obtain ⟨q8, q9, -, -⟩ := hst.facts
              exact bodyPost_ret (v := .tuple #[.agg #[.slice none 0 0, .slice none 0 0], .int .i64 4]) (by simp [results, Tryz.results32, go_sem, q8, q9]) rfl (DecSPost.err HN.out rfl hbz)
          | some x =>
            have hxm := HMB.out x (HMR.out x (mayF_mem HM2.out))
            obtain ⟨xt, xc, xw⟩ := x
            simp only at hxm HRx
            obtain ⟨y1, hy1⟩ : ∃ y : ByteArray, y = ⟨xc.toArray⟩ := ⟨_, rfl⟩
            obtain ⟨y2, hy2⟩ : ∃ y : ByteArray, y = ⟨xw.toArray⟩ := ⟨_, rfl⟩
            have hy1d : xc = y1.data.toList := by rw [hy1]
            rw [show mayR (some (xt, xc, xw)) = .tuple #[.agg #[.int .i64 (xt : Int), .string y1, .string y2], .bool true] by rw [mayR, eltV, hy1, hy2]]
            rw [hy1d] at hxm HRx
            rw [size_string] at hxm
            obtain ⟨o5, ho5⟩ : ∃ o, decP2 y1.data.toList = o := ⟨_, rfl⟩
            rw [ho5] at HRx
            have HO5 := hide ho5
            obtain ⟨wy, hwy⟩ : ∃ W, W = wx.alloc (.cells #[.int .i64 (xt : Int), .string y1, .string y2] 72) := ⟨_, rfl⟩
            have z0 : wy.cell? ⟨wx.heap.size, 0, none⟩ = some (.int .i64 (xt : Int)) := by rw [hwy, World.cell?_alloc_new]; rfl
            have z1 : wy.cell? ⟨wx.heap.size, 1, none⟩ = some (.string y1) := by rw [hwy, World.cell?_alloc_new]; rfl
            have z2 : wy.cell? ⟨wx.heap.size, 2, none⟩ = some (.string y2) := by rw [hwy, World.cell?_alloc_new]; rfl
            have HDy := hide (hDx.grow (show Below wx.heap.size wx wy by rw [hwy]; exact (Below.refl _ _).alloc (Nat.le_refl _) _))
            clear hDx hy1 hy2 hy1d ho5 HM2
            go_upto_region 15 with fail
            rw [← hwy]
            clear hwy
            go_wp2_with fail
            refine (trees_any (xt : Int) y1 y2 (by omega) _ (HMX.out.below HDy.out.b.base) (HTB.out.below HDy.out.b.base)).mono ?_
            rintro e w6 ⟨A6, c6, rfl, hsl6, hb6, hmed6⟩
            rw [HO5.out] at hsl6 hmed6 ⊢
            have hD6 := HDy.out.grow hb6
            have hgy := HDy.out.s.lt
            clear z0 z1 z2 hb6
            obtain ⟨s0, s1, k0, k1⟩ := hD6.s.facts
            have hgS4 : g4 < gS := by have := hD6.o2; have := hD6.o3; omega
            cases o5 with
            | error k9 =>
              have hk9 : k9 ≠ 0 := fun h => decP2_err0 _ (h ▸ HO5.out)
              have ht : (k9 != 0) = true := by simpa using hk9
              have HN := hide (show r = .error k9 from HRx.out)
              have HB6 := hide (hD6.b.set (j := 1) hgS4 (.slice A6 0 c6))
              rw [show toGs (.error k9) = (k9, []) from rfl]
              clear hk9 hsl6 hmed6 hD6
              go_upto_region 17 with fail
              obtain ⟨w7, hw7⟩ : ∃ W, W = w6.setCell ⟨gS, 1, none⟩ (.slice A6 0 c6) := ⟨_, rfl⟩
              rw [← hw7] at HB6
              try rw [← hw7]
              clear hw7 s0 s1 k0 k1
              obtain ⟨n0, n1, -, -⟩ := (HB6.out).n4.facts
              obtain ⟨m0, m1, k0, k1⟩ := (HB6.out).n2.facts
              go_wp2_with fail
              have hst := (HB6.out).n2.store (.slice none 0 0) (.slice none 0 0)
              have hbz := ((HB6.out).base.setCell (p := ⟨g2, 0, none⟩) (HB6.out).lo (.slice none 0 0)).setCell (p := ⟨g2, 1, none⟩) (HB6.out).lo (.slice none 0 0)
              obtain ⟨W3, hW3⟩ : ∃ W3, W3 = (w7.setCell ⟨g2, 0, none⟩ (.slice none 0 0)).setCell ⟨g2, 1, none⟩ (.slice none 0 0) := ⟨_, rfl⟩
              rw [← hW3] at hst hbz ⊢
              obtain ⟨q8, q9, -, -⟩ := hst.facts
              exact bodyPost_ret (v := .tuple #[.agg #[.slice none 0 0, .slice none 0 0], .int .i64 k9]) (by simp [results, Tryz.results32, go_sem, q8, q9]) rfl (DecSPost.err HN.out rfl hbz)
            | ok l6 =>
              rw [show toGs (.ok l6) = (0, l6) from rfl] at hsl6 hmed6 ⊢
              simp only at hsl6 hmed6 ⊢
              have HD7 := hide (hD6.setX (X' := l6) (B' := A6) (d' := c6) ((Sl.ok RGen.ok).mono hsl6 (fun _ _ => rfl) (fun k hk => ⟨by have := hk.1; omega, hk.2⟩)) (fun g hg => by
                rcases List.mem_append.1 hg with h | h
                · exact hD6.med g (by simp [h])
                · exact hmed6 g h))
              have HR7 := hide (show r = decSX l5 (.ok (l6, mr2)) from HRx.out)
              clear hsl6 hmed6 hD6
              go_upto_region 17 with fail
              obtain ⟨w7, hw7⟩ : ∃ W, W = w6.setCell ⟨gS, 1, none⟩ (.slice A6 l6.length c6) := ⟨_, rfl⟩
              rw [← hw7] at HD7
              try rw [← hw7]
              clear hw7 s0 s1 k0 k1
              -- HR : r = decSX P (.ok (X, rest)); HD : TrAt .. rest at wn
              go_wp2_with fail
              refine (End_any gF mr2 _ HD7.out.f.fat).mono ?_
              rintro e w20 ⟨rfl, n20, hw20⟩
              have hD20 := HD7.out.grow (show Below w7.heap.size w7 w20 by rw [hw20]; exact below_drewN (Below.refl _ _) n20)
              clear hw20
              by_cases hrest : mr2 = []
              · rw [if_pos hrest]
                have HR2 := hide (show r = decSC (l5, l6) by rw [HR7.out, decSX, if_neg (by simpa using hrest)])
                obtain ⟨q, hq⟩ : ∃ q, chkS (l5, l6) = q := ⟨_, rfl⟩
                have HQ := hide hq
                have HD20 := hide hD20
                have o1 := hD20.b.o1
                have o2 := hD20.o2
                have o3 := hD20.o3
                have hgS := hD20.s.lt
                have CK := hide (rSCheck_any l5 l6 A5 A6 c5 c6 hD20.med q hq w20 (HMX.out.below hD20.b.base) ((Sl.ok RGen.ok).mono hD20.kp (fun _ _ => rfl) (fun _ hk => hk.2)) ((Sl.ok RGen.ok).mono hD20.kx (fun _ _ => rfl) (fun _ hk => hk.2)))
                obtain ⟨s0, s1, -, -⟩ := hD20.s.facts
                clear hrest hq hD20
                go_wp2_with fail
                refine CK.out.mono ?_
                rintro e w21 ⟨rfl, hb21⟩
                have HD21 := hide (HD20.out.grow hb21)
                clear hb21 s0 s1
                by_cases hq0 : q = 0
                · have htq : (q != 0) = false := by simp [hq0]
                  have HN := hide (show r = .ok (l5, l6) by rw [HR2.out, decSC, if_pos (by rw [HQ.out]; exact hq0)])
                  clear hq0
                  obtain ⟨s0, s1, -, -⟩ := HD21.out.s.facts
                  obtain ⟨m0, m1, k0, k1⟩ := HD21.out.b.n2.facts
                  go_wp2_with fail
                  have hst := HD21.out.b.n2.store (.slice A5 l5.length c5) (.slice A6 l6.length c6)
                  have hbz := (HD21.out.b.base.setCell (p := ⟨g2, 0, none⟩) HD21.out.b.lo (.slice A5 l5.length c5)).setCell (p := ⟨g2, 1, none⟩) HD21.out.b.lo (.slice A6 l6.length c6)
                  have hne : ∀ k, Btw (gS + 1) w21.heap.size k → k ≠ g2 := fun k hk => by have := hk.1; omega
                  have hkp := sl_set (g := g2) (j := 1) (sl_set (g := g2) (j := 0) HD21.out.kp hne (.slice A5 l5.length c5)) hne (.slice A6 l6.length c6)
                  have hkx := sl_set (g := g2) (j := 1) (sl_set (g := g2) (j := 0) HD21.out.kx hne (.slice A5 l5.length c5)) hne (.slice A6 l6.length c6)
                  have hz3 : ((w21.setCell ⟨g2, 0, none⟩ (.slice A5 l5.length c5)).setCell ⟨g2, 1, none⟩ (.slice A6 l6.length c6)).heap.size = w21.heap.size := by simp
                  obtain ⟨W3, hW3⟩ : ∃ W3, W3 = (w21.setCell ⟨g2, 0, none⟩ (.slice A5 l5.length c5)).setCell ⟨g2, 1, none⟩ (.slice A6 l6.length c6) := ⟨_, rfl⟩
                  rw [← hW3] at hst hbz hkp hkx hz3 ⊢
                  obtain ⟨q8, q9, -, -⟩ := hst.facts
                  exact bodyPost_ret (v := .tuple #[.agg #[.slice A5 l5.length c5, .slice A6 l6.length c6], .int .i64 0]) (by simp [results, Tryz.results32, go_sem, q8, q9]) rfl (DecSPost.ok HN.out rfl ((Sl.ok RGen.ok).mono hkp (fun _ _ => rfl) (fun k hk => by show k < _; rw [hz3]; exact hk.2)) ((Sl.ok RGen.ok).mono hkx (fun _ _ => rfl) (fun k hk => by show k < _; rw [hz3]; exact hk.2)) hbz)
                · have htq : (q != 0) = true := by simp [hq0]
                  have HN := hide (show r = .error q by rw [HR2.out, decSC, if_neg (by rw [HQ.out]; exact hq0), HQ.out])
                  clear hq0
                  obtain ⟨n0, n1, -, -⟩ := (HD21.out.b).n4.facts
                  obtain ⟨m0, m1, k0, k1⟩ := (HD21.out.b).n2.facts
                  go_wp2_with fail
                  have hst := (HD21.out.b).n2.store (.slice none 0 0) (.slice none 0 0)
                  have hbz := ((HD21.out.b).base.setCell (p := ⟨g2, 0, none⟩) (HD21.out.b).lo (.slice none 0 0)).setCell (p := ⟨g2, 1, none⟩) (HD21.out.b).lo (.slice none 0 0)
                  obtain ⟨W3, hW3⟩ : ∃ W3, W3 = (w21.setCell ⟨g2, 0, none⟩ (.slice none 0 0)).setCell ⟨g2, 1, none⟩ (.slice none 0 0) := ⟨_, rfl⟩
                  rw [← hW3] at hst hbz ⊢
                  obtain ⟨q8, q9, -, -⟩ := hst.facts
                  exact bodyPost_ret (v := .tuple #[.agg #[.slice none 0 0, .slice none 0 0], .int .i64 q]) (by simp [results, Tryz.results32, go_sem, q8, q9]) rfl (DecSPost.err HN.out rfl hbz)
              · rw [if_neg hrest]
                have HN := hide (show r = .error 4 by rw [HR7.out, decSX, if_pos hrest])
                have HB20 := hide hD20.b
                clear hrest hD20
                obtain ⟨n0, n1, -, -⟩ := (HB20.out).n4.facts
                obtain ⟨m0, m1, k0, k1⟩ := (HB20.out).n2.facts
                go_wp2_with fail
                have hst := (HB20.out).n2.store (.slice none 0 0) (.slice none 0 0)
                have hbz := ((HB20.out).base.setCell (p := ⟨g2, 0, none⟩) (HB20.out).lo (.slice none 0 0)).setCell (p := ⟨g2, 1, none⟩) (HB20.out).lo (.slice none 0 0)
                obtain ⟨W3, hW3⟩ : ∃ W3, W3 = (w20.setCell ⟨g2, 0, none⟩ (.slice none 0 0)).setCell ⟨g2, 1, none⟩ (.slice none 0 0) := ⟨_, rfl⟩
                rw [← hW3] at hst hbz ⊢
                obtain ⟨q8, q9, -, -⟩ := hst.facts
                exact bodyPost_ret (v := .tuple #[.agg #[.slice none 0 0, .slice none 0 0], .int .i64 4]) (by simp [results, Tryz.results32, go_sem, q8, q9]) rfl (DecSPost.err HN.out rfl hbz)
end Go.Proofs.YtahamclodagihaaGreatDoor
namespace Go.Proofs.YtahamclodagihaaGreatDoor
open Go.RowKit
theorem MedGs.app9 {p x : List Gen} (h1 : MedGs p) (h2 : MedGs x) : MedGs (p ++ x) := fun g hg => by
 rcases List.mem_append.1 hg with h | h
 ·exact h1 g h
 ·exact h2 g h
theorem Sl.nilAny {α : Type} (R : Rep α) (size : Nat) (w : World) (S : Nat → Prop) (A : Option Addr) (c : Nat) (hc : c ≤ maxLen) : Sl R size w S [] [.slice A 0 c] := ⟨A, c, rfl, Nat.zero_le _, hc, fun h => absurd h (by simp)⟩
theorem Sl.tail9 {w : World} {S : Nat → Prop} {x : Elt} {r : List Elt} {b off n c : Nat} (h : Sl RElt 3 w S (x :: r) [.slice (some ⟨b, off, none⟩) n c]) : Sl RElt 3 w S r [.slice (some ⟨b, off + 3, none⟩) r.length (c - 1)] := by
 obtain ⟨A', c', e, h1, h2, h3⟩ := h
 simp only [List.cons.injEq, Value.slice.injEq, and_true] at e
 obtain ⟨rfl, rfl, rfl⟩ := e
 simp only [List.length_cons] at h1
 refine ⟨_, _, rfl, by omega, by omega, fun _ => ?_⟩
 obtain ⟨b', off', hA, hb, hh⟩ := h3 (by simp)
 simp only [Option.some.injEq, Addr.mk.injEq, and_true] at hA
 obtain ⟨rfl, rfl⟩ := hA
 refine ⟨_, _, rfl, hb, fun i y hy => ?_⟩
 obtain ⟨xs, k1, k2⟩ := hh (i + 1) y (by simpa using hy)
 exact ⟨xs, k1, fun j u hu => by rw [← k2 j u hu]; congr 2; omega⟩
structure PrAt (w : World) (g2 g4 gS gP : Nat) (P X : List Gen) (A B : Option Addr) (c d : Nat) (W : World) : Prop where
 b : BAt w g2 g4 W
 o3 : g4 < gS
 o4 : gS < gP
 s : SB gS (.slice A P.length c) (.slice B X.length d) W
 p : ∃ T, W.heap[gP]? = some (.cells #[.pointer (some ⟨gS, 0, none⟩), .pointer (some ⟨gS, 1, none⟩)] T (0, 0))
 kp : Sl RGen 3 W (Btw (gS + 1) W.heap.size) P [.slice A P.length c]
 kx : Sl RGen 3 W (Btw (gS + 1) W.heap.size) X [.slice B X.length d]
 med : MedGs (P ++ X)
theorem PrAt.plt {w W : World} {g2 g4 gS gP : Nat} {P X : List Gen} {A B : Option Addr} {c d : Nat} (h : PrAt w g2 g4 gS gP P X A B c d W) : gP < W.heap.size := by
 obtain ⟨T, hp⟩ := h.p
 exact (Array.getElem?_eq_some_iff.1 hp).1
theorem PrAt.ptr {w W : World} {g2 g4 gS gP : Nat} {P X : List Gen} {A B : Option Addr} {c d : Nat} (h : PrAt w g2 g4 gS gP P X A B c d W) : W.cell? ⟨gP, 0, none⟩ = some (.pointer (some ⟨gS, 0, none⟩)) ∧ W.cell? ⟨gP, 1, none⟩ = some (.pointer (some ⟨gS, 1, none⟩)) := by
 obtain ⟨T, hp⟩ := h.p
 simp [World.cell?, hp]
theorem PrAt.grow {w W W' : World} {g2 g4 gS gP : Nat} {P X : List Gen} {A B : Option Addr} {c d : Nat} (h : PrAt w g2 g4 gS gP P X A B c d W) (hb : Below W.heap.size W W') : PrAt w g2 g4 gS gP P X A B c d W' := by
 have hlt := h.plt
 obtain ⟨T, hp⟩ := h.p
 exact ⟨h.b.grow hb, h.o3, h.o4, h.s.below hb, ⟨T, (hb.block gP hlt).trans hp⟩, (Sl.ok RGen.ok).mono h.kp (fun k hk => hb.block k hk.2) (fun _ hk => ⟨hk.1, Nat.lt_of_lt_of_le hk.2 hb.size⟩), (Sl.ok RGen.ok).mono h.kx (fun k hk => hb.block k hk.2) (fun _ hk => ⟨hk.1, Nat.lt_of_lt_of_le hk.2 hb.size⟩), h.med⟩
theorem PrAt.setP {w W : World} {g2 g4 gS gP : Nat} {P P' X : List Gen} {A A' B : Option Addr} {c c' d : Nat} (h : PrAt w g2 g4 gS gP P X A B c d W) (hk : Sl RGen 3 W (Btw (gS + 1) W.heap.size) P' [.slice A' P'.length c']) (hm : MedGs (P' ++ X)) :
  PrAt w g2 g4 gS gP P' X A' B c' d (W.setCell ⟨gS, 0, none⟩ (.slice A' P'.length c')) := by
 have o3 := h.o3
 have o4 := h.o4
 obtain ⟨T, hp⟩ := h.p
 have hne : ∀ k, Btw (gS + 1) W.heap.size k → k ≠ gS := fun k hk => by have := hk.1; omega
 exact ⟨h.b.set (by omega) _, o3, o4, h.s.store0 _, ⟨T, (Below.heap_setCell W ⟨gS, 0, none⟩ _ gP (by show gP ≠ gS; omega)).trans hp⟩, by rw [World.size_setCell]; exact sl_set hk hne _, by rw [World.size_setCell]; exact sl_set h.kx hne _, hm⟩
theorem PrAt.setX {w W : World} {g2 g4 gS gP : Nat} {P X X' : List Gen} {A B B' : Option Addr} {c d d' : Nat} (h : PrAt w g2 g4 gS gP P X A B c d W) (hk : Sl RGen 3 W (Btw (gS + 1) W.heap.size) X' [.slice B' X'.length d']) (hm : MedGs (P ++ X')) :
  PrAt w g2 g4 gS gP P X' A B' c d' (W.setCell ⟨gS, 1, none⟩ (.slice B' X'.length d')) := by
 have o3 := h.o3
 have o4 := h.o4
 obtain ⟨T, hp⟩ := h.p
 have hne : ∀ k, Btw (gS + 1) W.heap.size k → k ≠ gS := fun k hk => by have := hk.1; omega
 exact ⟨h.b.set (by omega) _, o3, o4, h.s.store1 _, ⟨T, (Below.heap_setCell W ⟨gS, 1, none⟩ _ gP (by show gP ≠ gS; omega)).trans hp⟩, by rw [World.size_setCell]; exact sl_set h.kp hne _, by rw [World.size_setCell]; exact sl_set hk hne _, hm⟩
def RelD (r : Except Int Sub) (j : Nat) (P X : List Gen) (rest : List Elt) : Prop :=
 match j with
 | 0 => r = decSP (partD 160 rest) ∧ P = [] ∧ X = []
 | 1 => r = decSX P (partD 161 rest) ∧ X = []
 | _ => r = decSX P (.ok (X, rest))
set_option maxRecDepth 100000 in
set_option maxHeartbeats 16000000 in
theorem gDecodeS_any (s : ByteArray) (hs : s.size ≤ 100000000) (w : World) (hmx : Mx w) (htb : Tb w) :
    Calls Tryz.prog 31 #[.string s] w (DecSPost w (toS (decS s.data.toList))) := by
  obtain ⟨r, hr⟩ : ∃ r, decS s.data.toList = r := ⟨_, rfl⟩
  rw [hr]
  obtain ⟨oe, hoe⟩ : ∃ o, oneF s.data.toList = o := ⟨_, rfl⟩
  have HRO := hide (show r = decSO oe by rw [← hr, decS, hoe])
  have HOE := hide hoe
  have HMX := hide hmx
  have HTB := hide htb
  obtain ⟨W0, hW0⟩ : ∃ W, W = ((w.alloc (.cells #[.slice none 0 0, .slice none 0 0] 52)).alloc (.cells #[.slice none 0 0, .slice none 0 0] 52)).alloc (.cells #[.slice none 0 0, .slice none 0 0] 52) := ⟨_, rfl⟩
  obtain ⟨g2, hg2⟩ : ∃ g, g = w.heap.size := ⟨_, rfl⟩
  obtain ⟨g4, hg4⟩ : ∃ g, g = w.heap.size + 1 := ⟨_, rfl⟩
  obtain ⟨gS, hgS⟩ : ∃ g, g = w.heap.size + 1 + 1 := ⟨_, rfl⟩
  have HBA0 := hide (show BAt w g2 g4 W0 from by
    refine ⟨by rw [hW0]; exact (((Below.refl _ _).alloc (Nat.le_refl _) _).alloc (by simp) _).alloc (by simp; omega) _, by omega, by omega, ?_, ?_⟩
    · rw [hg2, hW0]; unfold SB
      rw [Below.heap_alloc _ _ _ (by simp; omega), Below.heap_alloc _ _ _ (by simp)]
      exact heap_alloc_new w _
    · rw [hg4, hW0]; unfold SB
      rw [Below.heap_alloc _ _ _ (by simp), show w.heap.size + 1 = (w.alloc (.cells #[.slice none 0 0, .slice none 0 0] 52)).heap.size by simp]
      exact heap_alloc_new _ _)
  have HS0 := hide (show SB gS (.slice none 0 0) (.slice none 0 0) W0 from by
    rw [hgS, hW0]; unfold SB
    rw [show w.heap.size + 1 + 1 = ((w.alloc (.cells #[.slice none 0 0, .slice none 0 0] 52)).alloc (.cells #[.slice none 0 0, .slice none 0 0] 52)).heap.size by simp]
    exact heap_alloc_new _ _)
  have h4S : g4 < gS := by omega
  have HG2 := hide hg2
  have HG4 := hide hg4
  have HGS := hide hgS
  clear hr hoe hmx htb hg2 hg4 hgS
  go_enter Tryz.func31, Tryz.ntmps31
  go_upto_region 2 with fail
  rw [← hW0]
  try rw [← HGS.out]
  try rw [← HG4.out]
  try rw [← HG2.out]
  clear hW0
  go_wp2_with fail
  refine (One_any s (by omega) _).mono ?_
  rintro e w1 ⟨rfl, hb1⟩
  rw [HOE.out]
  have HBA1 := hide (HBA0.out.grow hb1)
  have HS1 := hide (HS0.out.below hb1)
  clear hb1
  cases oe with
  | error k =>
    have hk : k ≠ 0 := fun h => one_err0 _ (h ▸ HOE.out)
    have ht2 : (k != 0) = true := by simpa using hk
    have HN := hide (show r = .error k from HRO.out)
    rw [show oneR (.error k) = .tuple #[.agg #[.int .i64 0, .string ⟨#[]⟩, .string ⟨#[]⟩], .int .i64 k] from rfl]
    have hsB := HBA1.out.grow ((Below.refl w1.heap.size w1).alloc (Nat.le_refl _) (.cells #[.int .i64 0, .string ⟨#[]⟩, .string ⟨#[]⟩] 72))
    go_upto_region 3 with fail
    obtain ⟨wB, hwB⟩ : ∃ W, W = w1.alloc (.cells #[.int .i64 0, .string ⟨#[]⟩, .string ⟨#[]⟩] 72) := ⟨_, rfl⟩
    rw [← hwB] at hsB ⊢
    clear hk hwB
    obtain ⟨n0, n1, -, -⟩ := (hsB).n4.facts
    obtain ⟨m0, m1, k0, k1⟩ := (hsB).n2.facts
    go_wp2_with fail
    have hst := (hsB).n2.store (.slice none 0 0) (.slice none 0 0)
    have hbz := ((hsB).base.setCell (p := ⟨g2, 0, none⟩) (hsB).lo (.slice none 0 0)).setCell (p := ⟨g2, 1, none⟩) (hsB).lo (.slice none 0 0)
    obtain ⟨W3, hW3⟩ : ∃ W3, W3 = (wB.setCell ⟨g2, 0, none⟩ (.slice none 0 0)).setCell ⟨g2, 1, none⟩ (.slice none 0 0) := ⟨_, rfl⟩
    rw [← hW3] at hst hbz ⊢
    obtain ⟨q8, q9, -, -⟩ := hst.facts
    exact bodyPost_ret (v := .tuple #[.agg #[.slice none 0 0, .slice none 0 0], .int .i64 k]) (by simp [results, Tryz.results31, go_sem, q8, q9]) rfl (DecSPost.err HN.out rfl hbz)
  | ok ee =>
    obtain ⟨t, c, raw⟩ := ee
    have hcl := (one_is_wrap HOE.out).2.2.1
    simp only at hcl
    obtain ⟨x1, hx1⟩ : ∃ x : ByteArray, x = ⟨c.toArray⟩ := ⟨_, rfl⟩
    obtain ⟨x2, hx2⟩ : ∃ x : ByteArray, x = ⟨raw.toArray⟩ := ⟨_, rfl⟩
    have hx1d : c = x1.data.toList := by rw [hx1]
    rw [show oneR (.ok (t, c, raw)) = .tuple #[.agg #[.int .i64 (t : Int), .string x1, .string x2], .int .i64 0] by rw [oneR, eltV, hx1, hx2]]
    obtain ⟨ol, hol⟩ : ∃ o, openF (t : Int) 48 x1.data.toList = o := ⟨_, rfl⟩
    have HR0 := hide (show r = decSG ol by rw [HRO.out, ← hol, ← hx1d]; rfl)
    have HOL := hide hol
    rw [hx1d, size_string] at hcl
    obtain ⟨wA, hwA⟩ : ∃ W, W = w1.alloc (.cells #[.int .i64 (t : Int), .string x1, .string x2] 72) := ⟨_, rfl⟩
    have n0 : wA.cell? ⟨w1.heap.size, 0, none⟩ = some (.int .i64 (t : Int)) := by rw [hwA, World.cell?_alloc_new]; rfl
    have n1 : wA.cell? ⟨w1.heap.size, 1, none⟩ = some (.string x1) := by rw [hwA, World.cell?_alloc_new]; rfl
    have hbA : Below w1.heap.size w1 wA := by rw [hwA]; exact (Below.refl _ _).alloc (Nat.le_refl _) _
    have HBAA := hide (HBA1.out.grow hbA)
    have HSA := hide (HS1.out.below hbA)
    clear hx1 hx2 hx1d hol hbA
    go_upto_region 3 with fail
    rw [← hwA]
    clear hwA
    by_cases h48 : t = 48
    · have t48 : ((t : Int) != 48) = false := by rw [h48]; rfl
      have HLL := hide (show listF x1.data.toList = ol by rw [← HOL.out, openF, if_neg (by rw [h48]; simp)])
      clear h48
      go_wp2_with fail
      refine (List_any x1 (by omega) _).mono ?_
      rintro e wL ⟨hbL, hres⟩
      rw [HLL.out] at hres
      have HBAL := hide (HBAA.out.grow hbL)
      have HSL := hide (HSA.out.below hbL)
      have hSA := HSA.out.lt
      have hzL := hbL.size
      clear hbL n0 n1
      cases ol with
      | error k =>
        obtain rfl : e = _ := hres
        have hk : k ≠ 0 := fun h => list_err0 _ _ (Nat.le_refl _) (h ▸ HLL.out)
        have ht2 : (k != 0) = true := by simpa using hk
        have HN := hide (show r = .error k from HR0.out)
        have HB9 := hide (show BAt w g2 g4 wL from HBAL.out)
        clear hk
        obtain ⟨n0, n1, -, -⟩ := (HB9.out).n4.facts
        obtain ⟨m0, m1, k0, k1⟩ := (HB9.out).n2.facts
        go_wp2_with fail
        have hst := (HB9.out).n2.store (.slice none 0 0) (.slice none 0 0)
        have hbz := ((HB9.out).base.setCell (p := ⟨g2, 0, none⟩) (HB9.out).lo (.slice none 0 0)).setCell (p := ⟨g2, 1, none⟩) (HB9.out).lo (.slice none 0 0)
        obtain ⟨W3, hW3⟩ : ∃ W3, W3 = (wL.setCell ⟨g2, 0, none⟩ (.slice none 0 0)).setCell ⟨g2, 1, none⟩ (.slice none 0 0) := ⟨_, rfl⟩
        rw [← hW3] at hst hbz ⊢
        obtain ⟨q8, q9, -, -⟩ := hst.facts
        exact bodyPost_ret (v := .tuple #[.agg #[.slice none 0 0, .slice none 0 0], .int .i64 k]) (by simp [results, Tryz.results31, go_sem, q8, q9]) rfl (DecSPost.err HN.out rfl hbz)
      | ok L =>
        obtain ⟨A, cp, rfl, hsl⟩ := hres
        have HMB := hide (fun (e : Elt) (he : e ∈ L) => (list_is_wrap _ _ _ (Nat.le_refl _) HLL.out e he).2.2.1)
        obtain ⟨wP, hwP⟩ : ∃ W, W = wL.alloc (.cells #[.pointer (some ⟨gS, 0, none⟩), .pointer (some ⟨gS, 1, none⟩)] 117) := ⟨_, rfl⟩
        have hbP : Below wL.heap.size wL wP := by rw [hwP]; exact (Below.refl _ _).alloc (Nat.le_refl _) _
        obtain ⟨gP, hgP⟩ : ∃ g, g = wL.heap.size := ⟨_, rfl⟩
        obtain ⟨E0, hE0⟩ : ∃ l : List Gen, l = [] := ⟨_, rfl⟩
        have HE0 := hide hE0
        have hPr : PrAt w g2 g4 gS gP E0 E0 none none 0 0 wP := by
          rw [hE0]
          exact ⟨HBAL.out.grow hbP, h4S, by omega, HSL.out.below hbP, ⟨_, by rw [hwP, hgP]; exact heap_alloc_new _ _⟩, Sl.nil _ _ _ _, Sl.nil _ _ _ _, fun g hg => by cases hg⟩
        have HPR := hide hPr
        have HSR0 := hide (show Sl RElt 3 wP (Btw (gS + 1) wP.heap.size) L [.slice A L.length cp] from (Sl.ok RElt.ok).mono hsl (fun k hk => hbP.block k hk.2) (fun k hk => ⟨by have := hk.1; omega, Nat.lt_of_lt_of_le hk.2 hbP.size⟩))
        have HWP := hide hwP
        have HGP := hide hgP
        have H0 := hide (show RelD r 0 E0 E0 L from ⟨HR0.out, hE0, hE0⟩)
        clear hE0 hPr hsl hwP hgP hbP
        go_upto_region 11 with fail
        rw [← HWP.out]
        try rw [← HGP.out]
        go_wp2_with fail
        go_loopw [8, 39] (fun v i wr => ∃ (j : Nat) (P X : List Gen) (A B : Option Addr) (c d : Nat) (rest : List Elt) (A8 : Option Addr) (c8 : Nat), j ≤ 2 ∧ i = .int .i64 j ∧ v = .slice A8 rest.length c8 ∧ Sl RElt 3 wr (Btw (gS + 1) wr.heap.size) rest [.slice A8 rest.length c8] ∧ PrAt w g2 g4 gS gP P X A B c d wr ∧ (∀ x ∈ rest, x ∈ L) ∧ Hid (RelD r j P X rest)) (fun _ i _ => 2 - (intOf i).toNat)
        case atStart => exact ⟨0, E0, E0, none, none, 0, 0, L, A, cp, by omega, rfl, rfl, HSR0.out, HPR.out, fun _ h => h, H0⟩
        case round =>
          obtain ⟨j, P, X, A, B, c, d, rest, A8, c8, hj, rfl, rfl, hsr, hp, hbr', HREL⟩ := hrel
          obtain ⟨wi, rfl⟩ : ∃ wi : World, wi = wr := ⟨_, rfl⟩
          have HSR := hide hsr
          have HP := hide hp
          have HMR := hide hbr'
          obtain ⟨-, hrc, hrm⟩ := hsr.len_
          unfold maxLen at hrm
          clear hsr hp
          match j, hj, HREL with
          | 0, _, HREL =>
            rw [show ((0 : Nat) : Int) = 0 from rfl]
            obtain ⟨p0, p1⟩ := HP.out.ptr
            by_cases h0 : rest = []
            · have t0 : ((rest.length : Int) == 0) = true := by rw [h0]; rfl
              have HNX := hide (show RelD r 1 P X rest from ⟨by have h := HREL.out.1; rw [h0] at h ⊢; rw [HREL.out.2.1]; exact h, HREL.out.2.2⟩)
              clear h0
              go_wp2_with fail
              go_roundw
              case rel => exact ⟨1, P, X, A, B, c, d, rest, A8, c8, by omega, by go_num, rfl, HSR.out, HP.out, HMR.out, HNX⟩
              case measure => simp [intOf]
            · obtain ⟨x, q, hxq⟩ : ∃ x q, rest = x :: q := by
                match rest, h0 with
                | x :: q, _ => exact ⟨x, q, rfl⟩
              have hl0 : 0 < rest.length := by rw [hxq]; simp
              have t0 : ((rest.length : Int) == 0) = false := by rw [beq_eq_false_iff_ne]; omega
              have hl0' : (0 : Int) < (rest.length : Int) := by omega
              obtain ⟨b, off, hA, hbS, f0, f1, -⟩ := HSR.out.eltAt (i := 0) hl0
              subst hA
              have hx0 : rest[0] = x := by simp [hxq]
              rw [hx0] at f0 f1
              have hxm := HMB.out x (HMR.out x (by rw [hxq]; simp))
              have hqm : ∀ y ∈ q, y ∈ L := fun y hy => HMR.out y (by rw [hxq]; simp [hy])
              obtain ⟨xt, xc, xw⟩ := x
              simp only [Nat.zero_mul, Nat.add_zero] at f0 f1
              simp only at hxm
              obtain ⟨y1, hy1⟩ : ∃ y : ByteArray, y = ⟨xc.toArray⟩ := ⟨_, rfl⟩
              have hy1d : xc = y1.data.toList := by rw [hy1]
              rw [← hy1] at f1
              rw [hy1d, size_string] at hxm
              by_cases hxt : xt = 160
              · have t1 : ((xt : Int) != 160) = false := by rw [hxt]; rfl
                obtain ⟨o5, ho5⟩ : ∃ o, decP2 y1.data.toList = o := ⟨_, rfl⟩
                have HO5 := hide ho5
                have HPD := hide (show partD 160 rest = partR q o5 by rw [hxq, partD, if_pos hxt, ← ho5, hy1d])
                have HXQ := hide hxq
                have HQM := hide hqm
                have hql : rest.length = q.length + 1 := by rw [hxq]; simp
                have HQL := hide hql
                have HSQ := hide (show Sl RElt 3 wi (Btw (gS + 1) wi.heap.size) q [.slice (some ⟨b, off + 3, none⟩) q.length (c8 - 1)] from (hxq ▸ HSR.out).tail9)
                clear h0 hx0 hxq hqm hql hy1 hy1d hxt ho5
                go_wp2_with fail
                refine (decodePart_any y1 (by omega) _ (HMX.out.below HP.out.b.base) (HTB.out.below HP.out.b.base)).mono ?_
                rintro e w6 ⟨A6, c6, rfl, hsl6, hb6, hmed6⟩
                rw [HO5.out] at hsl6 hmed6 ⊢
                have hD6 := HP.out.grow hb6
                have hSQ6 : Sl RElt 3 w6 (Btw (gS + 1) w6.heap.size) q [.slice (some ⟨b, off + 3, none⟩) q.length (c8 - 1)] := (Sl.ok RElt.ok).mono HSQ.out (fun k hk => hb6.block k hk.2) (fun k hk => ⟨hk.1, Nat.lt_of_lt_of_le hk.2 hb6.size⟩)
                have hgy := HP.out.s.lt
                clear f0 f1 p0 p1 hb6
                obtain ⟨s0, s1, k0, k1⟩ := hD6.s.facts
                have hgS4 : g4 < gS := h4S
                cases o5 with
                | error k9 =>
                  have hk9 : k9 ≠ 0 := fun h => decP2_err0 _ (h ▸ HO5.out)
                  have ht : (k9 != 0) = true := by simpa using hk9
                  have HN := hide (show r = .error k9 from (by rw [HREL.out.1, HPD.out]; rfl))
                  have HB6 := hide (hD6.b.set (j := 0) hgS4 (.slice A6 0 c6))
                  rw [show toGs (.error k9) = (k9, []) from rfl]
                  clear hk9 hsl6 hmed6 hD6 hSQ6
                  go_upto_region 16 with fail
                  obtain ⟨w7, hw7⟩ : ∃ W, W = w6.setCell ⟨gS, 0, none⟩ (.slice A6 0 c6) := ⟨_, rfl⟩
                  rw [← hw7] at HB6
                  try rw [← hw7]
                  clear hw7 s0 s1 k0 k1
                  obtain ⟨n0, n1, -, -⟩ := (HB6.out).n4.facts
                  obtain ⟨m0, m1, k0, k1⟩ := (HB6.out).n2.facts
                  go_wp2_with fail
                  have hst := (HB6.out).n2.store (.slice none 0 0) (.slice none 0 0)
                  have hbz := ((HB6.out).base.setCell (p := ⟨g2, 0, none⟩) (HB6.out).lo (.slice none 0 0)).setCell (p := ⟨g2, 1, none⟩) (HB6.out).lo (.slice none 0 0)
                  obtain ⟨W3, hW3⟩ : ∃ W3, W3 = (w7.setCell ⟨g2, 0, none⟩ (.slice none 0 0)).setCell ⟨g2, 1, none⟩ (.slice none 0 0) := ⟨_, rfl⟩
                  rw [← hW3] at hst hbz ⊢
                  obtain ⟨q8, q9, -, -⟩ := hst.facts
                  exact bodyPost_ret (v := .tuple #[.agg #[.slice none 0 0, .slice none 0 0], .int .i64 k9]) (by simp [results, Tryz.results31, go_sem, q8, q9]) rfl (DecSPost.err HN.out rfl hbz)
                | ok l6 =>
                  rw [show toGs (.ok l6) = (0, l6) from rfl] at hsl6 hmed6 ⊢
                  simp only at hsl6 hmed6 ⊢
                  have hD7 := hD6.setP (A' := A6) (c' := c6) ((Sl.ok RGen.ok).mono hsl6 (fun _ _ => rfl) (fun k hk => ⟨by have := hk.1; omega, hk.2⟩)) (MedGs.app9 hmed6 (fun g hg => hD6.med g (by simp [hg])))
                  have hSQ7 : Sl RElt 3 (w6.setCell ⟨gS, 0, none⟩ (.slice A6 l6.length c6)) (Btw (gS + 1) w6.heap.size) q [.slice (some ⟨b, off + 3, none⟩) q.length (c8 - 1)] := (Sl.ok RElt.ok).mono hSQ6 (fun k hk => Below.heap_setCell w6 ⟨gS, 0, none⟩ _ k (by show k ≠ gS; have := hk.1; omega)) (fun _ hk => hk)
                  have HD7 := hide hD7
                  have HSQ7 := hide hSQ7
                  have HNX := hide (show RelD r 1 l6 X q from ⟨by rw [HREL.out.1, HPD.out]; rfl, HREL.out.2.2⟩)
                  clear hsl6 hmed6 hD6 hSQ6 hD7 hSQ7
                  have hq8 : rest.length - 1 = q.length := by have := HQL.out; omega
                  have HQ8 := hide hq8
                  clear hq8
                  by_cases hc1 : c8 = 1
                  · have HQ0 := hide (show q = [] from List.eq_nil_of_length_eq_zero (by have := HQL.out; omega))
                    go_wp2_with fail
                    go_roundw
                    case rel => exact ⟨1, _, _, _, _, _, _, q, _, 0, by omega, by go_num, by rw [HQ8.out], by rw [HQ0.out]; exact Sl.nilAny _ _ _ _ _ _ (by simp [maxLen]), HD7.out, HQM.out, HNX⟩
                    case measure => simp [intOf]
                  · go_wp2_with fail
                    go_roundw
                    case rel => exact ⟨1, _, _, _, _, _, _, q, _, c8 - 1, by omega, by go_num, by rw [HQ8.out], by rw [World.size_setCell]; exact HSQ7.out, HD7.out, HQM.out, HNX⟩
                    case measure => simp [intOf]
              · have t1 : ((xt : Int) != 160) = true := by simp only [bne_iff_ne, ne_eq]; omega
                have HNX := hide (show RelD r 1 P X rest from by
                  have hpd : partD 160 rest = .ok ([], rest) := by rw [hxq, partD, if_neg hxt]
                  exact ⟨by rw [HREL.out.2.1, HREL.out.1, hpd]; rfl, HREL.out.2.2⟩)
                clear h0 hx0 hxq hqm hy1 hy1d hxt
                go_wp2_with fail
                go_roundw
                case rel => exact ⟨1, P, X, _, B, c, d, rest, _, c8, by omega, by go_num, rfl, HSR.out, HP.out, HMR.out, HNX⟩
                case measure => simp [intOf]
          | 1, _, HREL =>
            rw [show ((1 : Nat) : Int) = 1 from rfl]
            obtain ⟨p0, p1⟩ := HP.out.ptr
            by_cases h0 : rest = []
            · have t0 : ((rest.length : Int) == 0) = true := by rw [h0]; rfl
              have HNX := hide (show RelD r 2 P X rest from (by have h := HREL.out.1; show r = decSX P (.ok (X, rest)); rw [HREL.out.2, h0]; rw [h0] at h; exact h))
              clear h0
              go_wp2_with fail
              go_roundw
              case rel => exact ⟨2, P, X, A, B, c, d, rest, A8, c8, by omega, by go_num, rfl, HSR.out, HP.out, HMR.out, HNX⟩
              case measure => simp [intOf]
            · obtain ⟨x, q, hxq⟩ : ∃ x q, rest = x :: q := by
                match rest, h0 with
                | x :: q, _ => exact ⟨x, q, rfl⟩
              have hl0 : 0 < rest.length := by rw [hxq]; simp
              have t0 : ((rest.length : Int) == 0) = false := by rw [beq_eq_false_iff_ne]; omega
              have hl0' : (0 : Int) < (rest.length : Int) := by omega
              obtain ⟨b, off, hA, hbS, f0, f1, -⟩ := HSR.out.eltAt (i := 0) hl0
              subst hA
              have hx0 : rest[0] = x := by simp [hxq]
              rw [hx0] at f0 f1
              have hxm := HMB.out x (HMR.out x (by rw [hxq]; simp))
              have hqm : ∀ y ∈ q, y ∈ L := fun y hy => HMR.out y (by rw [hxq]; simp [hy])
              obtain ⟨xt, xc, xw⟩ := x
              simp only [Nat.zero_mul, Nat.add_zero] at f0 f1
              simp only at hxm
              obtain ⟨y1, hy1⟩ : ∃ y : ByteArray, y = ⟨xc.toArray⟩ := ⟨_, rfl⟩
              have hy1d : xc = y1.data.toList := by rw [hy1]
              rw [← hy1] at f1
              rw [hy1d, size_string] at hxm
              by_cases hxt : xt = 161
              · have t1 : ((xt : Int) != 161) = false := by rw [hxt]; rfl
                obtain ⟨o5, ho5⟩ : ∃ o, decP2 y1.data.toList = o := ⟨_, rfl⟩
                have HO5 := hide ho5
                have HPD := hide (show partD 161 rest = partR q o5 by rw [hxq, partD, if_pos hxt, ← ho5, hy1d])
                have HXQ := hide hxq
                have HQM := hide hqm
                have hql : rest.length = q.length + 1 := by rw [hxq]; simp
                have HQL := hide hql
                have HSQ := hide (show Sl RElt 3 wi (Btw (gS + 1) wi.heap.size) q [.slice (some ⟨b, off + 3, none⟩) q.length (c8 - 1)] from (hxq ▸ HSR.out).tail9)
                clear h0 hx0 hxq hqm hql hy1 hy1d hxt ho5
                go_wp2_with fail
                refine (decodePart_any y1 (by omega) _ (HMX.out.below HP.out.b.base) (HTB.out.below HP.out.b.base)).mono ?_
                rintro e w6 ⟨A6, c6, rfl, hsl6, hb6, hmed6⟩
                rw [HO5.out] at hsl6 hmed6 ⊢
                have hD6 := HP.out.grow hb6
                have hSQ6 : Sl RElt 3 w6 (Btw (gS + 1) w6.heap.size) q [.slice (some ⟨b, off + 3, none⟩) q.length (c8 - 1)] := (Sl.ok RElt.ok).mono HSQ.out (fun k hk => hb6.block k hk.2) (fun k hk => ⟨hk.1, Nat.lt_of_lt_of_le hk.2 hb6.size⟩)
                have hgy := HP.out.s.lt
                clear f0 f1 p0 p1 hb6
                obtain ⟨s0, s1, k0, k1⟩ := hD6.s.facts
                have hgS4 : g4 < gS := h4S
                cases o5 with
                | error k9 =>
                  have hk9 : k9 ≠ 0 := fun h => decP2_err0 _ (h ▸ HO5.out)
                  have ht : (k9 != 0) = true := by simpa using hk9
                  have HN := hide (show r = .error k9 from (by rw [HREL.out.1, HPD.out]; rfl))
                  have HB6 := hide (hD6.b.set (j := 1) hgS4 (.slice A6 0 c6))
                  rw [show toGs (.error k9) = (k9, []) from rfl]
                  clear hk9 hsl6 hmed6 hD6 hSQ6
                  go_upto_region 16 with fail
                  obtain ⟨w7, hw7⟩ : ∃ W, W = w6.setCell ⟨gS, 1, none⟩ (.slice A6 0 c6) := ⟨_, rfl⟩
                  rw [← hw7] at HB6
                  try rw [← hw7]
                  clear hw7 s0 s1 k0 k1
                  obtain ⟨n0, n1, -, -⟩ := (HB6.out).n4.facts
                  obtain ⟨m0, m1, k0, k1⟩ := (HB6.out).n2.facts
                  go_wp2_with fail
                  have hst := (HB6.out).n2.store (.slice none 0 0) (.slice none 0 0)
                  have hbz := ((HB6.out).base.setCell (p := ⟨g2, 0, none⟩) (HB6.out).lo (.slice none 0 0)).setCell (p := ⟨g2, 1, none⟩) (HB6.out).lo (.slice none 0 0)
                  obtain ⟨W3, hW3⟩ : ∃ W3, W3 = (w7.setCell ⟨g2, 0, none⟩ (.slice none 0 0)).setCell ⟨g2, 1, none⟩ (.slice none 0 0) := ⟨_, rfl⟩
                  rw [← hW3] at hst hbz ⊢
                  obtain ⟨q8, q9, -, -⟩ := hst.facts
                  exact bodyPost_ret (v := .tuple #[.agg #[.slice none 0 0, .slice none 0 0], .int .i64 k9]) (by simp [results, Tryz.results31, go_sem, q8, q9]) rfl (DecSPost.err HN.out rfl hbz)
                | ok l6 =>
                  rw [show toGs (.ok l6) = (0, l6) from rfl] at hsl6 hmed6 ⊢
                  simp only at hsl6 hmed6 ⊢
                  have hD7 := hD6.setX (B' := A6) (d' := c6) ((Sl.ok RGen.ok).mono hsl6 (fun _ _ => rfl) (fun k hk => ⟨by have := hk.1; omega, hk.2⟩)) (MedGs.app9 (fun g hg => hD6.med g (by simp [hg])) hmed6)
                  have hSQ7 : Sl RElt 3 (w6.setCell ⟨gS, 1, none⟩ (.slice A6 l6.length c6)) (Btw (gS + 1) w6.heap.size) q [.slice (some ⟨b, off + 3, none⟩) q.length (c8 - 1)] := (Sl.ok RElt.ok).mono hSQ6 (fun k hk => Below.heap_setCell w6 ⟨gS, 1, none⟩ _ k (by show k ≠ gS; have := hk.1; omega)) (fun _ hk => hk)
                  have HD7 := hide hD7
                  have HSQ7 := hide hSQ7
                  have HNX := hide (show RelD r 2 P l6 q from (by show r = decSX P (.ok (l6, q)); rw [HREL.out.1, HPD.out]; rfl))
                  clear hsl6 hmed6 hD6 hSQ6 hD7 hSQ7
                  have hq8 : rest.length - 1 = q.length := by have := HQL.out; omega
                  have HQ8 := hide hq8
                  clear hq8
                  by_cases hc1 : c8 = 1
                  · have HQ0 := hide (show q = [] from List.eq_nil_of_length_eq_zero (by have := HQL.out; omega))
                    go_wp2_with fail
                    go_roundw
                    case rel => exact ⟨2, _, _, _, _, _, _, q, _, 0, by omega, by go_num, by rw [HQ8.out], by rw [HQ0.out]; exact Sl.nilAny _ _ _ _ _ _ (by simp [maxLen]), HD7.out, HQM.out, HNX⟩
                    case measure => simp [intOf]
                  · go_wp2_with fail
                    go_roundw
                    case rel => exact ⟨2, _, _, _, _, _, _, q, _, c8 - 1, by omega, by go_num, by rw [HQ8.out], by rw [World.size_setCell]; exact HSQ7.out, HD7.out, HQM.out, HNX⟩
                    case measure => simp [intOf]
              · have t1 : ((xt : Int) != 161) = true := by simp only [bne_iff_ne, ne_eq]; omega
                have HNX := hide (show RelD r 2 P X rest from by
                  have hpd : partD 161 rest = .ok ([], rest) := by rw [hxq, partD, if_neg hxt]
                  show r = decSX P (.ok (X, rest)); rw [HREL.out.2, HREL.out.1, hpd])
                clear h0 hx0 hxq hqm hy1 hy1d hxt
                go_wp2_with fail
                go_roundw
                case rel => exact ⟨2, P, X, _, B, c, d, rest, _, c8, by omega, by go_num, rfl, HSR.out, HP.out, HMR.out, HNX⟩
                case measure => simp [intOf]
          | 2, _, HREL =>
            rw [show ((2 : Nat) : Int) = 2 from rfl]
            have HR := hide (show r = decSX P (.ok (X, rest)) from HREL.out)
            by_cases hrest : rest = []
            · have tl : ¬ (0 : Int) < (rest.length : Int) := by rw [hrest]; simp
              have HR2 := hide (show r = decSC (P, X) by rw [HR.out, decSX, if_neg (by simpa using hrest)])
              obtain ⟨q, hq⟩ : ∃ q, chkS (P, X) = q := ⟨_, rfl⟩
              have HQ := hide hq
              have o1 := HP.out.b.o1
              have o3 := HP.out.o3
              have hgS := HP.out.s.lt
              have CK := hide (SCheck_any P X A B c d HP.out.med q hq wi (HMX.out.below HP.out.b.base) ((Sl.ok RGen.ok).mono HP.out.kp (fun _ _ => rfl) (fun _ hk => hk.2)) ((Sl.ok RGen.ok).mono HP.out.kx (fun _ _ => rfl) (fun _ hk => hk.2)))
              obtain ⟨s0, s1, -, -⟩ := HP.out.s.facts
              clear hrest hq
              go_wp2_with fail
              refine CK.out.mono ?_
              rintro e w21 ⟨rfl, hb21⟩
              have HD21 := hide (HP.out.grow hb21)
              clear hb21 s0 s1
              by_cases hq0 : q = 0
              · have htq : (q != 0) = false := by simp [hq0]
                have HN := hide (show r = .ok (P, X) by rw [HR2.out, decSC, if_pos (by rw [HQ.out]; exact hq0)])
                clear hq0
                obtain ⟨s0, s1, -, -⟩ := HD21.out.s.facts
                obtain ⟨m0, m1, k0, k1⟩ := HD21.out.b.n2.facts
                go_wp2_with fail
                have hst := HD21.out.b.n2.store (.slice A P.length c) (.slice B X.length d)
                have hbz := (HD21.out.b.base.setCell (p := ⟨g2, 0, none⟩) HD21.out.b.lo (.slice A P.length c)).setCell (p := ⟨g2, 1, none⟩) HD21.out.b.lo (.slice B X.length d)
                have hne : ∀ k, Btw (gS + 1) w21.heap.size k → k ≠ g2 := fun k hk => by have := hk.1; omega
                have hkp := sl_set (g := g2) (j := 1) (sl_set (g := g2) (j := 0) HD21.out.kp hne (.slice A P.length c)) hne (.slice B X.length d)
                have hkx := sl_set (g := g2) (j := 1) (sl_set (g := g2) (j := 0) HD21.out.kx hne (.slice A P.length c)) hne (.slice B X.length d)
                have hz3 : ((w21.setCell ⟨g2, 0, none⟩ (.slice A P.length c)).setCell ⟨g2, 1, none⟩ (.slice B X.length d)).heap.size = w21.heap.size := by simp
                obtain ⟨W3, hW3⟩ : ∃ W3, W3 = (w21.setCell ⟨g2, 0, none⟩ (.slice A P.length c)).setCell ⟨g2, 1, none⟩ (.slice B X.length d) := ⟨_, rfl⟩
                rw [← hW3] at hst hbz hkp hkx hz3 ⊢
                obtain ⟨q8, q9, -, -⟩ := hst.facts
                exact bodyPost_ret (v := .tuple #[.agg #[.slice A P.length c, .slice B X.length d], .int .i64 0]) (by simp [results, Tryz.results31, go_sem, q8, q9]) rfl (DecSPost.ok HN.out rfl ((Sl.ok RGen.ok).mono hkp (fun _ _ => rfl) (fun k hk => by show k < _; rw [hz3]; exact hk.2)) ((Sl.ok RGen.ok).mono hkx (fun _ _ => rfl) (fun k hk => by show k < _; rw [hz3]; exact hk.2)) hbz)
              · have htq : (q != 0) = true := by simp [hq0]
                have HN := hide (show r = .error q by rw [HR2.out, decSC, if_neg (by rw [HQ.out]; exact hq0), HQ.out])
                clear hq0
                obtain ⟨n0, n1, -, -⟩ := (HD21.out.b).n4.facts
                obtain ⟨m0, m1, k0, k1⟩ := (HD21.out.b).n2.facts
                go_wp2_with fail
                have hst := (HD21.out.b).n2.store (.slice none 0 0) (.slice none 0 0)
                have hbz := ((HD21.out.b).base.setCell (p := ⟨g2, 0, none⟩) (HD21.out.b).lo (.slice none 0 0)).setCell (p := ⟨g2, 1, none⟩) (HD21.out.b).lo (.slice none 0 0)
                obtain ⟨W3, hW3⟩ : ∃ W3, W3 = (w21.setCell ⟨g2, 0, none⟩ (.slice none 0 0)).setCell ⟨g2, 1, none⟩ (.slice none 0 0) := ⟨_, rfl⟩
                rw [← hW3] at hst hbz ⊢
                obtain ⟨q8, q9, -, -⟩ := hst.facts
                exact bodyPost_ret (v := .tuple #[.agg #[.slice none 0 0, .slice none 0 0], .int .i64 q]) (by simp [results, Tryz.results31, go_sem, q8, q9]) rfl (DecSPost.err HN.out rfl hbz)
            · have tl : (0 : Int) < (rest.length : Int) := by
                have : rest.length ≠ 0 := fun h => hrest (List.eq_nil_of_length_eq_zero h)
                omega
              have HN := hide (show r = .error 4 by rw [HR.out, decSX, if_pos hrest])
              have HB20 := hide HP.out.b
              clear hrest
              obtain ⟨n0, n1, -, -⟩ := (HB20.out).n4.facts
              obtain ⟨m0, m1, k0, k1⟩ := (HB20.out).n2.facts
              go_wp2_with fail
              have hst := (HB20.out).n2.store (.slice none 0 0) (.slice none 0 0)
              have hbz := ((HB20.out).base.setCell (p := ⟨g2, 0, none⟩) (HB20.out).lo (.slice none 0 0)).setCell (p := ⟨g2, 1, none⟩) (HB20.out).lo (.slice none 0 0)
              obtain ⟨W3, hW3⟩ : ∃ W3, W3 = (wi.setCell ⟨g2, 0, none⟩ (.slice none 0 0)).setCell ⟨g2, 1, none⟩ (.slice none 0 0) := ⟨_, rfl⟩
              rw [← hW3] at hst hbz ⊢
              obtain ⟨q8, q9, -, -⟩ := hst.facts
              exact bodyPost_ret (v := .tuple #[.agg #[.slice none 0 0, .slice none 0 0], .int .i64 4]) (by simp [results, Tryz.results31, go_sem, q8, q9]) rfl (DecSPost.err HN.out rfl hbz)
          | n + 3, h, _ => exact absurd h (by omega)
    · have t48 : ((t : Int) != 48) = true := by simp only [bne_iff_ne, ne_eq]; omega
      have ho5 : ol = .error 5 := by rw [← HOL.out, openF, if_pos (by omega)]
      have HN := hide (show r = .error 5 by rw [HR0.out, ho5]; rfl)
      have HB5 := hide HBAA.out
      clear h48 ho5
      obtain ⟨n0, n1, -, -⟩ := (HBAA.out).n4.facts
      obtain ⟨m0, m1, k0, k1⟩ := (HBAA.out).n2.facts
      go_wp2_with fail
      have hst := (HBAA.out).n2.store (.slice none 0 0) (.slice none 0 0)
      have hbz := ((HBAA.out).base.setCell (p := ⟨g2, 0, none⟩) (HBAA.out).lo (.slice none 0 0)).setCell (p := ⟨g2, 1, none⟩) (HBAA.out).lo (.slice none 0 0)
      obtain ⟨W3, hW3⟩ : ∃ W3, W3 = (wA.setCell ⟨g2, 0, none⟩ (.slice none 0 0)).setCell ⟨g2, 1, none⟩ (.slice none 0 0) := ⟨_, rfl⟩
      rw [← hW3] at hst hbz ⊢
      obtain ⟨q8, q9, -, -⟩ := hst.facts
      exact bodyPost_ret (v := .tuple #[.agg #[.slice none 0 0, .slice none 0 0], .int .i64 5]) (by simp [results, Tryz.results31, go_sem, q8, q9]) rfl (DecSPost.err HN.out rfl hbz)
end Go.Proofs.YtahamclodagihaaGreatDoor
