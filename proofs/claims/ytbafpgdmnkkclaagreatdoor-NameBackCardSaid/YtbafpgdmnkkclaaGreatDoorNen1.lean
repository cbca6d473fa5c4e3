/- Elements in ascending order: Ascending, both. -/
import Derived.Test.YtbafpgdmnkkclaaGreatDoorNenP
import Derived.Sort.Walk0
import Derived.BigRegion
import Derived.Test.YtbafpgdmnkkclaaGreatDoorWra
import Derived.Test.YtbafpgdmnkkclaaGreatDoorOidT
namespace Go.Proofs.YtbafpgdmnkkclaaGreatDoor
open Go.RowKit

theorem asc_at {l : List Elt} {q k : Nat} (hq : q + 1 = k) (hk : k < l.length) : ascB (l.drop q) = (leL (l[q]'(by omega)).2.2 l[k].2.2 && ascB (l.drop k)) := by
  subst hq
  rw [List.drop_eq_getElem_cons (show q < l.length by omega), List.drop_eq_getElem_cons hk, ascB]
theorem asc_end {l : List Elt} {q : Nat} (h : l.length ≤ q + 1) : ascB (l.drop q) = true := by
  have hl : (l.drop q).length ≤ 1 := by rw [List.length_drop]; omega
  match l.drop q, hl with
  | [], _ => rfl
  | [_], _ => rfl
  | _ :: _ :: _, h => simp at h


set_option maxRecDepth 100000 in
set_option maxHeartbeats 4000000 in
theorem Asc_any (l : List Elt) (A : Option Addr) (c : Nat) (w : World) (h : Sl RElt 3 w (Lt w.heap.size) l [.slice A l.length c]) :
    Calls Tryz.prog 68 #[.slice A l.length c] w fun e w' => e = .returned (.bool (ascB l)) ∧ Below w.heap.size w w' := by
  obtain ⟨o, ho⟩ : ∃ o, ascB l = o := ⟨_, rfl⟩
  rw [ho]
  have HO := hide (show ascB (l.drop 0) = o from ho)
  have K := hide h
  obtain ⟨-, hlc, hcm⟩ := h.len_
  unfold maxLen at hcm
  clear ho h
  go_enter Tryz.func68, Tryz.ntmps68
  go_wp2_with fail
  go_loopw [3] (fun i wr => ∃ (k q : Nat), q + 1 = k ∧ (k ≤ l.length ∨ k = 1) ∧ i = .int .i64 k ∧ Below w.heap.size w wr ∧ ascB (l.drop q) = o) (fun i _ => l.length - (intOf i).toNat)
  case atStart => exact ⟨1, 0, rfl, .inr rfl, rfl, Below.refl _ _, HO.out⟩
  case round =>
    obtain ⟨k, q, hkq, hk, rfl, hb, hasc⟩ := hrel
    have HA := hide hasc
    clear hasc
    by_cases hlt : k < l.length
    · have hk1 : (k : Int) - 1 = (q : Int) := by omega
      have hql : q < l.length := by omega
      obtain ⟨b1, o1, hA, hS1, d0, d1, d2⟩ := K.out.eltAt hlt
      obtain ⟨b2, o2, hA2, hS2, e0, e1, e2⟩ := K.out.eltAt hql
      cases hA
      cases hA2
      obtain ⟨x, hx⟩ : ∃ x : ByteArray, x = ⟨l[k].2.2.toArray⟩ := ⟨_, rfl⟩
      obtain ⟨y, hy⟩ : ∃ y : ByteArray, y = ⟨l[q].2.2.toArray⟩ := ⟨_, rfl⟩
      have HAT := hide (show ascB (l.drop q) = (leL y.data.toList x.data.toList && ascB (l.drop k)) by rw [asc_at hkq hlt, hx, hy])
      have d2' := (hb.cell (p := ⟨b1, o1 + k * 3 + 2, none⟩) hS1).trans (hx ▸ d2)
      have e2' := (hb.cell (p := ⟨b1, o1 + q * 3 + 2, none⟩) hS1).trans (hy ▸ e2)
      have HB := hide hb
      have hkl : (k : Int) < (l.length : Int) := by omega
      have hql2 : (q : Int) < (l.length : Int) := by omega
      have hkq2 := hide hkq
      obtain ⟨v, hv⟩ : ∃ v, leL y.data.toList x.data.toList = v := ⟨_, rfl⟩
      have hless : Op.bytesLess x.toList y.toList = !v := by
        rw [Go.Proofs.bytesLess_eq, ByteArray.toList_eq, ByteArray.toList_eq, ← hv, leL]
        by_cases e : x.data.toList < y.data.toList
        · rw [decide_eq_true e, decide_eq_false (by rw [List.not_le]; exact e)]; rfl
        · rw [decide_eq_false e, decide_eq_true (by rw [← List.not_lt]; exact e)]; rfl
      have HV := hide hv
      clear d0 d1 d2 e0 e1 e2 hx hy hb hkq hlt hql hv
      go_wp2_with fail
      go_quiet (fail)
      cases v with
      | false =>
        have HN := hide (show o = false by rw [← HA.out, HAT.out, HV.out]; rfl)
        go_wp2_with fail
        go_ret
        exact ⟨by rw [HN.out]; rfl, below_drewN HB.out _⟩
      | true =>
        have HN := hide (show ascB (l.drop k) = o by rw [← HA.out, HAT.out, HV.out]; rfl)
        clear d2' e2' hless
        go_wp2_with fail
        go_roundw
        case rel => exact ⟨k + 1, k, rfl, .inl (by omega), by go_num, below_drewN HB.out _, HN.out⟩
        case measure => simp [intOf]; omega
    · have HN := hide (show o = true by rw [← HA.out]; exact asc_end (by omega))
      have hkl : ¬ (k : Int) < (l.length : Int) := by omega
      clear hlt
      go_wp2_with fail
      go_ret
      exact ⟨by rw [HN.out]; rfl, hb⟩
set_option maxRecDepth 100000 in
set_option maxHeartbeats 4000000 in
theorem rAsc_any (l : List Elt) (A : Option Addr) (c : Nat) (w : World) (h : Sl RElt 3 w (Lt w.heap.size) l [.slice A l.length c]) :
    Calls Tryz.prog 42 #[.slice A l.length c] w fun e w' => e = .returned (.bool (ascB l)) ∧ Below w.heap.size w w' := by
  obtain ⟨o, ho⟩ : ∃ o, ascB l = o := ⟨_, rfl⟩
  rw [ho]
  have HO := hide (show ascB (l.drop 0) = o from ho)
  have K := hide h
  obtain ⟨-, hlc, hcm⟩ := h.len_
  unfold maxLen at hcm
  clear ho h
  go_enter Tryz.func42, Tryz.ntmps42
  go_wp2_with fail
  go_loopw [3] (fun i wr => ∃ (k q : Nat), q + 1 = k ∧ (k ≤ l.length ∨ k = 1) ∧ i = .int .i64 k ∧ Below w.heap.size w wr ∧ ascB (l.drop q) = o) (fun i _ => l.length - (intOf i).toNat)
  case atStart => exact ⟨1, 0, rfl, .inr rfl, rfl, Below.refl _ _, HO.out⟩
  case round =>
    obtain ⟨k, q, hkq, hk, rfl, hb, hasc⟩ := hrel
    have HA := hide hasc
    clear hasc
    by_cases hlt : k < l.length
    · have hk1 : (k : Int) - 1 = (q : Int) := by omega
      have hql : q < l.length := by omega
      obtain ⟨b1, o1, hA, hS1, d0, d1, d2⟩ := K.out.eltAt hlt
      obtain ⟨b2, o2, hA2, hS2, e0, e1, e2⟩ := K.out.eltAt hql
      cases hA
      cases hA2
      obtain ⟨x, hx⟩ : ∃ x : ByteArray, x = ⟨l[k].2.2.toArray⟩ := ⟨_, rfl⟩
      obtain ⟨y, hy⟩ : ∃ y : ByteArray, y = ⟨l[q].2.2.toArray⟩ := ⟨_, rfl⟩
      have HAT := hide (show ascB (l.drop q) = (leL y.data.toList x.data.toList && ascB (l.drop k)) by rw [asc_at hkq hlt, hx, hy])
      have d2' := (hb.cell (p := ⟨b1, o1 + k * 3 + 2, none⟩) hS1).trans (hx ▸ d2)
      have e2' := (hb.cell (p := ⟨b1, o1 + q * 3 + 2, none⟩) hS1).trans (hy ▸ e2)
      have HB := hide hb
      have hkl : (k : Int) < (l.length : Int) := by omega
      have hql2 : (q : Int) < (l.length : Int) := by omega
      have hkq2 := hide hkq
      obtain ⟨v, hv⟩ : ∃ v, leL y.data.toList x.data.toList = v := ⟨_, rfl⟩
      have hless : Op.bytesLess x.toList y.toList = !v := by
        rw [Go.Proofs.bytesLess_eq, ByteArray.toList_eq, ByteArray.toList_eq, ← hv, leL]
        by_cases e : x.data.toList < y.data.toList
        · rw [decide_eq_true e, decide_eq_false (by rw [List.not_le]; exact e)]; rfl
        · rw [decide_eq_false e, decide_eq_true (by rw [← List.not_lt]; exact e)]; rfl
      have HV := hide hv
      clear d0 d1 d2 e0 e1 e2 hx hy hb hkq hlt hql hv
      go_wp2_with fail
      go_quiet (fail)
      cases v with
      | false =>
        have HN := hide (show o = false by rw [← HA.out, HAT.out, HV.out]; rfl)
        go_wp2_with fail
        go_ret
        exact ⟨by rw [HN.out]; rfl, below_drewN HB.out _⟩
      | true =>
        have HN := hide (show ascB (l.drop k) = o by rw [← HA.out, HAT.out, HV.out]; rfl)
        clear d2' e2' hless
        go_wp2_with fail
        go_roundw
        case rel => exact ⟨k + 1, k, rfl, .inl (by omega), by go_num, below_drewN HB.out _, HN.out⟩
        case measure => simp [intOf]; omega
    · have HN := hide (show o = true by rw [← HA.out]; exact asc_end (by omega))
      have hkl : ¬ (k : Int) < (l.length : Int) := by omega
      clear hlt
      go_wp2_with fail
      go_ret
      exact ⟨by rw [HN.out]; rfl, hb⟩
end Go.Proofs.YtbafpgdmnkkclaaGreatDoor

/- dname.decodeAttribute. -/
namespace Go.Proofs.YtbafpgdmnkkclaaGreatDoor
open Go.RowKit

/-- a block of an attribute -/
def AtB (g : Nat) (i : ByteArray) (k : Int) (v : ByteArray) (W : World) : Prop := W.heap[g]? = some (.cells #[.string i, .int .i64 k, .string v] 40 (0, 0))
theorem AtB.facts {g : Nat} {i v : ByteArray} {k : Int} {W : World} (h : AtB g i k v W) : W.cell? ⟨g, 0, none⟩ = some (.string i) ∧ W.cell? ⟨g, 1, none⟩ = some (.int .i64 k) ∧ W.cell? ⟨g, 2, none⟩ = some (.string v) ∧
    W.frozen? ⟨g, 0, none⟩ = false ∧ W.frozen? ⟨g, 1, none⟩ = false ∧ W.frozen? ⟨g, 2, none⟩ = false := by
  unfold AtB at h
  simp [World.cell?, World.frozen?, h]
theorem AtB.lt {g : Nat} {i v : ByteArray} {k : Int} {W : World} (h : AtB g i k v W) : g < W.heap.size := (Array.getElem?_eq_some_iff.1 h).1
theorem AtB.below {g : Nat} {i v : ByteArray} {k : Int} {W W' : World} (h : AtB g i k v W) (hb : Below W.heap.size W W') : AtB g i k v W' := (hb.block g h.lt).trans h
theorem AtB.ex {g d : Nat} {i v : ByteArray} {k : Int} {W W' : World} (h : AtB g i k v W) (hx : Ex d W W') (hne : g ≠ d) : AtB g i k v W' := (hx.block g h.lt (fun e => hne (Option.some.inj e))).trans h
theorem AtB.new (w : World) (i v : ByteArray) (k : Int) : AtB w.heap.size i k v (w.alloc (.cells #[.string i, .int .i64 k, .string v] 40)) := heap_alloc_new w _
theorem AtB.store {g : Nat} {i v : ByteArray} {k : Int} {W : World} (h : AtB g i k v W) (a b c : Value) :
    (((W.setCell ⟨g, 0, none⟩ a).setCell ⟨g, 1, none⟩ b).setCell ⟨g, 2, none⟩ c).cell? ⟨g, 0, none⟩ = some a ∧ (((W.setCell ⟨g, 0, none⟩ a).setCell ⟨g, 1, none⟩ b).setCell ⟨g, 2, none⟩ c).cell? ⟨g, 1, none⟩ = some b ∧
    (((W.setCell ⟨g, 0, none⟩ a).setCell ⟨g, 1, none⟩ b).setCell ⟨g, 2, none⟩ c).cell? ⟨g, 2, none⟩ = some c := by
  unfold AtB at h
  simp [World.cell?, World.setCell, Array.getElem?_modify, h]
def decAR : Except Int Attr → Value
  | .error k => .tuple #[.agg #[.string ⟨#[]⟩, .int .i64 0, .string ⟨#[]⟩], .int .i64 k]
  | .ok a => .tuple #[.agg #[.string ⟨a.1.toArray⟩, .int .i64 a.2.1, .string ⟨a.2.2.toArray⟩], .int .i64 0]
/-- the state of decodeAttribute: the result and 'none' are zero -/
structure DAt (w W : World) : Prop where
  below : Below w.heap.size w W
  r : AtB (w.heap.size + 1) ⟨#[]⟩ 0 ⟨#[]⟩ W
  n : AtB (w.heap.size + 2) ⟨#[]⟩ 0 ⟨#[]⟩ W
theorem DAt.grow {w W W' : World} (h : DAt w W) (hb : Below W.heap.size W W') : DAt w W' := ⟨h.below.trans (hb.mono h.below.size), h.r.below hb, h.n.below hb⟩
theorem three_attr (w : World) (a b c : Value) : ∃ W, W = ((w.alloc (.cells #[a, b, c] 61)).alloc (.cells #[.string ⟨#[]⟩, .int .i64 0, .string ⟨#[]⟩] 40)).alloc (.cells #[.string ⟨#[]⟩, .int .i64 0, .string ⟨#[]⟩] 40) ∧
    DAt w W ∧ W.heap.size = w.heap.size + 3 ∧ W.cell? ⟨w.heap.size, 0, none⟩ = some a ∧ W.cell? ⟨w.heap.size, 1, none⟩ = some b ∧ W.cell? ⟨w.heap.size, 2, none⟩ = some c := by
  obtain ⟨W1, h1⟩ : ∃ W, W = w.alloc (.cells #[a, b, c] 61) := ⟨_, rfl⟩
  obtain ⟨W2, h2⟩ : ∃ W, W = W1.alloc (.cells #[.string ⟨#[]⟩, .int .i64 0, .string ⟨#[]⟩] 40) := ⟨_, rfl⟩
  obtain ⟨W3, h3⟩ : ∃ W, W = W2.alloc (.cells #[.string ⟨#[]⟩, .int .i64 0, .string ⟨#[]⟩] 40) := ⟨_, rfl⟩
  rw [← h1, ← h2]
  have z1 : W1.heap.size = w.heap.size + 1 := by rw [h1]; simp
  have z2 : W2.heap.size = w.heap.size + 2 := by rw [h2]; simp [z1]
  have b1 : Below w.heap.size w W1 := by rw [h1]; exact (Below.refl _ _).alloc (Nat.le_refl _) _
  have b2 : Below W1.heap.size W1 W2 := by rw [h2]; exact (Below.refl _ _).alloc (Nat.le_refl _) _
  have b3 : Below W2.heap.size W2 W3 := by rw [h3]; exact (Below.refl _ _).alloc (Nat.le_refl _) _
  have b13 := b2.trans (b3.mono b2.size)
  have c0 : ∀ j, W3.cell? ⟨w.heap.size, j, none⟩ = W1.cell? ⟨w.heap.size, j, none⟩ := fun j => b13.cell (p := ⟨w.heap.size, j, none⟩) (by show w.heap.size < _; omega)
  have r2 : AtB (w.heap.size + 1) ⟨#[]⟩ 0 ⟨#[]⟩ W2 := by rw [h2, ← z1]; exact AtB.new W1 _ _ _
  have r3 : AtB (w.heap.size + 2) ⟨#[]⟩ 0 ⟨#[]⟩ W3 := by rw [h3, ← z2]; exact AtB.new W2 _ _ _
  refine ⟨W3, h3, ⟨b1.trans (b13.mono b1.size), r2.below b3, r3⟩, by rw [h3]; simp [z2], ?_, ?_, ?_⟩
  · rw [c0, h1, World.cell?_alloc_new]; rfl
  · rw [c0, h1, World.cell?_alloc_new]; rfl
  · rw [c0, h1, World.cell?_alloc_new]; rfl


set_option maxRecDepth 100000 in
set_option maxHeartbeats 16000000 in
theorem decAttr_any (t : Nat) (c raw : ByteArray) (hc : c.size ≤ 131072) (w : World) (htb : Tb w) :
    Calls Tryz.prog 69 #[.agg #[.int .i64 (t : Int), .string c, .string raw]] w fun e w' => e = .returned (decAR (decA (t, c.data.toList, raw.data.toList))) ∧ Below w.heap.size w w' := by
  obtain ⟨o, ho⟩ : ∃ o, decA (t, c.data.toList, raw.data.toList) = o := ⟨_, rfl⟩
  rw [ho]
  have HO := hide ho
  have HTB := hide htb
  clear ho htb
  obtain ⟨W0, hW0, hd0, hz0, n0, n1, n2⟩ := three_attr w (.int .i64 (t : Int)) (.string c) (.string raw)
  have HD0 := hide hd0
  clear hd0 n2
  go_enter Tryz.func69, Tryz.ntmps69
  go_upto_region 2 with fail
  simp only [Nat.add_assoc, Nat.reduceAdd]
  rw [← hW0]
  clear hW0 hz0
  by_cases h48 : t = 48
  · have ht : ((t : Int) != 48) = false := by rw [h48]; rfl
    obtain ⟨L, hL⟩ : ∃ L, listF c.data.toList = L := ⟨_, rfl⟩
    have HX := hide (show o = decAG L by rw [← HO.out, decA]; simp only; rw [openF, if_neg (by omega), hL])
    have HL := hide hL
    clear h48 hL
    go_wp2_with fail
    refine (List_any c (by omega) _).mono ?_
    rintro e w1 ⟨hb1, hres⟩
    rw [HL.out] at hres
    have hd1 := HD0.out.grow hb1
    clear n0 n1
    cases L with
    | error k =>
      obtain rfl : e = _ := hres
      have hk : k ≠ 0 := fun h => list_err0 _ _ (Nat.le_refl _) (h ▸ HL.out)
      have ht2 : (k != 0) = true := by simpa using hk
      have HN := hide (show o = .error k from HX.out)
      clear hk
      obtain ⟨r0, r1, r2, f0, f1, f2⟩ := (hd1).r.facts
      obtain ⟨n0, n1, n2, -, -, -⟩ := (hd1).n.facts
      go_wp2_with fail
      obtain ⟨q0, q1, q2⟩ := (hd1).r.store (.string ⟨#[]⟩) (.int .i64 0) (.string ⟨#[]⟩)
      have hbz := ((((hd1).below).setCell (p := ⟨w.heap.size + 1, 0, none⟩) (Nat.le_succ _) (.string ⟨#[]⟩)).setCell (p := ⟨w.heap.size + 1, 1, none⟩) (Nat.le_succ _) (.int .i64 0)).setCell (p := ⟨w.heap.size + 1, 2, none⟩) (Nat.le_succ _) (.string ⟨#[]⟩)
      obtain ⟨W3, hW3⟩ : ∃ W3, W3 = ((w1.setCell ⟨w.heap.size + 1, 0, none⟩ (.string ⟨#[]⟩)).setCell ⟨w.heap.size + 1, 1, none⟩ (.int .i64 0)).setCell ⟨w.heap.size + 1, 2, none⟩ (.string ⟨#[]⟩) := ⟨_, rfl⟩
      rw [← hW3] at q0 q1 q2 hbz ⊢
      exact bodyPost_ret (v := .tuple #[.agg #[(.string ⟨#[]⟩), (.int .i64 0), (.string ⟨#[]⟩)], .int .i64 k]) (by simp [results, Tryz.results69, go_sem, q0, q1, q2]) rfl ⟨by rw [HN.out]; rfl, hbz⟩
    | ok l =>
      obtain ⟨A, cp, rfl, hsl⟩ := hres
      have HX2 := hide (show o = decAL l from HX.out)
      have HML := hide (list_is_wrap _ _ _ (Nat.le_refl _) HL.out)
      have HD1 := hide hd1
      have HSL := hide hsl
      clear hd1 hsl hb1
      cases l with
      | nil =>
        have HN := hide (show o = .error 3 from HX2.out)
        rw [List.length_nil]
        obtain ⟨r0, r1, r2, f0, f1, f2⟩ := (HD1.out).r.facts
        obtain ⟨n0, n1, n2, -, -, -⟩ := (HD1.out).n.facts
        go_wp2_with fail
        obtain ⟨q0, q1, q2⟩ := (HD1.out).r.store (.string ⟨#[]⟩) (.int .i64 0) (.string ⟨#[]⟩)
        have hbz := ((((HD1.out).below).setCell (p := ⟨w.heap.size + 1, 0, none⟩) (Nat.le_succ _) (.string ⟨#[]⟩)).setCell (p := ⟨w.heap.size + 1, 1, none⟩) (Nat.le_succ _) (.int .i64 0)).setCell (p := ⟨w.heap.size + 1, 2, none⟩) (Nat.le_succ _) (.string ⟨#[]⟩)
        obtain ⟨W3, hW3⟩ : ∃ W3, W3 = ((w1.setCell ⟨w.heap.size + 1, 0, none⟩ (.string ⟨#[]⟩)).setCell ⟨w.heap.size + 1, 1, none⟩ (.int .i64 0)).setCell ⟨w.heap.size + 1, 2, none⟩ (.string ⟨#[]⟩) := ⟨_, rfl⟩
        rw [← hW3] at q0 q1 q2 hbz ⊢
        exact bodyPost_ret (v := .tuple #[.agg #[(.string ⟨#[]⟩), (.int .i64 0), (.string ⟨#[]⟩)], .int .i64 3]) (by simp [results, Tryz.results69, go_sem, q0, q1, q2]) rfl ⟨by rw [HN.out]; rfl, hbz⟩
      | cons a r =>
        obtain ⟨at_, ac, ar⟩ := a
        obtain ⟨bb, oo, hAA, hSS, e0, e1, e2⟩ := HSL.out.eltAt (i := 0) (by simp)
        have hacl := (HML.out (at_, ac, ar) (by simp)).2.2.1
        subst hAA
        simp only [List.getElem_cons_zero, Nat.zero_mul, Nat.add_zero] at e0 e1 e2 hacl
        obtain ⟨xa, hxa⟩ : ∃ x : ByteArray, x = ⟨ac.toArray⟩ := ⟨_, rfl⟩
        have had : ac = xa.data.toList := by rw [hxa]
        rw [← hxa] at e1
        rw [had, size_string] at hacl
        have hlen : ((at_, ac, ar) :: r).length = r.length + 1 := rfl
        obtain ⟨nn, hnn⟩ : ∃ nn, ((at_, ac, ar) :: r).length = nn := ⟨_, rfl⟩
        have HNN := hide (show nn = r.length + 1 by rw [← hnn, hlen])
        rw [hnn]
        have hnn1 : ¬ (nn : Int) < 1 := by have := HNN.out; omega
        have hnn2 : (0 : Int) < (nn : Int) := by have := HNN.out; omega
        have hnn3 : 0 < nn := by have := HNN.out; omega
        have HSLn := hide (show Sl RElt 3 w1 (Btw W0.heap.size w1.heap.size) ((at_, ac, ar) :: r) [.slice (some ⟨bb, oo, none⟩) nn cp] by rw [← hnn]; exact HSL.out)
        clear hxa hlen hnn HSL
        by_cases h6 : at_ = 6
        · have ht6 : ((at_ : Int) != 6) = false := by rw [h6]; rfl
          obtain ⟨d, hd⟩ : ∃ d, decP xa.data.toList = d := ⟨_, rfl⟩
          have HX3 := hide (show o = decAI r d by rw [HX2.out, decAL, if_neg (by simpa using h6)]; simp only; rw [had, hd])
          have HDD := hide hd
          clear h6 hd had
          go_wp2_with fail
          refine (Decode_any xa (by omega) _ (HTB.out.below HD1.out.below)).mono ?_
          rintro e w2 ⟨rfl, hb2⟩
          rw [HDD.out]
          have HD2 := hide (HD1.out.grow hb2)
          have HB2 := hide hb2
          clear hb2 e0 e1 e2 ht6
          cases d with
          | none =>
            have HN := hide (show o = .error 11 from HX3.out)
            rw [show encR none = .tuple #[.string ⟨#[]⟩, .int .i64 11] from rfl]
            obtain ⟨r0, r1, r2, f0, f1, f2⟩ := (HD2.out).r.facts
            obtain ⟨n0, n1, n2, -, -, -⟩ := (HD2.out).n.facts
            go_wp2_with fail
            obtain ⟨q0, q1, q2⟩ := (HD2.out).r.store (.string ⟨#[]⟩) (.int .i64 0) (.string ⟨#[]⟩)
            have hbz := ((((HD2.out).below).setCell (p := ⟨w.heap.size + 1, 0, none⟩) (Nat.le_succ _) (.string ⟨#[]⟩)).setCell (p := ⟨w.heap.size + 1, 1, none⟩) (Nat.le_succ _) (.int .i64 0)).setCell (p := ⟨w.heap.size + 1, 2, none⟩) (Nat.le_succ _) (.string ⟨#[]⟩)
            obtain ⟨W3, hW3⟩ : ∃ W3, W3 = ((w2.setCell ⟨w.heap.size + 1, 0, none⟩ (.string ⟨#[]⟩)).setCell ⟨w.heap.size + 1, 1, none⟩ (.int .i64 0)).setCell ⟨w.heap.size + 1, 2, none⟩ (.string ⟨#[]⟩) := ⟨_, rfl⟩
            rw [← hW3] at q0 q1 q2 hbz ⊢
            exact bodyPost_ret (v := .tuple #[.agg #[(.string ⟨#[]⟩), (.int .i64 0), (.string ⟨#[]⟩)], .int .i64 11]) (by simp [results, Tryz.results69, go_sem, q0, q1, q2]) rfl ⟨by rw [HN.out]; rfl, hbz⟩
          | some id =>
            obtain ⟨y, hy⟩ : ∃ y : ByteArray, y = ⟨id.toArray⟩ := ⟨_, rfl⟩
            have hyd : id = y.data.toList := by rw [hy]
            rw [show encR (some id) = .tuple #[.string y, .int .i64 0] by rw [hy]; rfl]
            have HX4 := hide (show o = decAV y.data.toList r by rw [← hyd]; exact HX3.out)
            clear hy hyd
            cases r with
            | nil =>
              have hnn4 : (nn : Int) < 2 := by have := HNN.out; simp at this; omega
              have HN := hide (show o = .error 3 from HX4.out)
              obtain ⟨r0, r1, r2, f0, f1, f2⟩ := (HD2.out).r.facts
              obtain ⟨n0, n1, n2, -, -, -⟩ := (HD2.out).n.facts
              go_wp2_with fail
              obtain ⟨q0, q1, q2⟩ := (HD2.out).r.store (.string ⟨#[]⟩) (.int .i64 0) (.string ⟨#[]⟩)
              have hbz := ((((HD2.out).below).setCell (p := ⟨w.heap.size + 1, 0, none⟩) (Nat.le_succ _) (.string ⟨#[]⟩)).setCell (p := ⟨w.heap.size + 1, 1, none⟩) (Nat.le_succ _) (.int .i64 0)).setCell (p := ⟨w.heap.size + 1, 2, none⟩) (Nat.le_succ _) (.string ⟨#[]⟩)
              obtain ⟨W3, hW3⟩ : ∃ W3, W3 = ((w2.setCell ⟨w.heap.size + 1, 0, none⟩ (.string ⟨#[]⟩)).setCell ⟨w.heap.size + 1, 1, none⟩ (.int .i64 0)).setCell ⟨w.heap.size + 1, 2, none⟩ (.string ⟨#[]⟩) := ⟨_, rfl⟩
              rw [← hW3] at q0 q1 q2 hbz ⊢
              exact bodyPost_ret (v := .tuple #[.agg #[(.string ⟨#[]⟩), (.int .i64 0), (.string ⟨#[]⟩)], .int .i64 3]) (by simp [results, Tryz.results69, go_sem, q0, q1, q2]) rfl ⟨by rw [HN.out]; rfl, hbz⟩
            | cons v q =>
              obtain ⟨vt, vc, vr⟩ := v
              have hnn4 : ¬ (nn : Int) < 2 := by have := HNN.out; simp at this; omega
              have hnn5 : (1 : Int) < (nn : Int) := by have := HNN.out; simp at this; omega
              have hnn6 : 1 < nn := by have := HNN.out; simp at this; omega
              obtain ⟨bv, ov, hAV, hSV, g0, g1, g2⟩ := HSLn.out.eltAt (i := 1) (by simp)
              cases hAV
              simp only [List.getElem_cons_succ, List.getElem_cons_zero, Nat.one_mul] at g0 g1 g2
              obtain ⟨xv, hxv⟩ : ∃ x : ByteArray, x = ⟨vc.toArray⟩ := ⟨_, rfl⟩
              have hvd : vc = xv.data.toList := by rw [hxv]
              rw [← hxv] at g1
              have g0' := (HB2.out.cell (p := ⟨bb, oo + 3, none⟩) hSV.2).trans g0
              have g1' := (HB2.out.cell (p := ⟨bb, oo + 3 + 1, none⟩) hSV.2).trans g1
              have HX5 := hide (show o = if vt ≠ 12 ∧ vt ≠ 19 ∧ vt ≠ 22 then .error 5 else if q ≠ [] then .error 4 else .ok (y.data.toList, (vt : Int), xv.data.toList) by rw [HX4.out, decAV, hvd])
              have HQ := hide (show nn = q.length + 2 by have := HNN.out; simp at this; omega)
              clear g0 g1 g2 hxv hvd
              by_cases hk : vt = 12 ∨ vt = 19 ∨ vt = 22
              · have HX6 := hide (show o = if q ≠ [] then .error 4 else .ok (y.data.toList, (vt : Int), xv.data.toList) by rw [HX5.out, if_neg (by omega)])
                rcases hk with rfl | rfl | rfl
                · have hcast : ((12 : Nat) : Int) = 12 := rfl
                  rw [hcast] at g0' HX6
                  clear hcast
                  by_cases hq : q = []
                  · have HN := hide (show o = .ok (y.data.toList, 12, xv.data.toList) by rw [HX6.out, if_neg (by simpa using hq)])
                    have hql : ¬ (2 : Int) < (nn : Int) := by have := HQ.out; rw [hq] at this; simp at this; omega
                    clear hq
                    obtain ⟨r0, r1, r2, f0, f1, f2⟩ := HD2.out.r.facts
                    go_wp2_with fail
                    go_region
                    all_goals
                      obtain ⟨q0, q1, q2⟩ := HD2.out.r.store (.string y) (.int .i64 12) (.string xv)
                      have hbz := (((HD2.out.below).setCell (p := ⟨w.heap.size + 1, 0, none⟩) (Nat.le_succ _) (.string y)).setCell (p := ⟨w.heap.size + 1, 1, none⟩) (Nat.le_succ _) (.int .i64 12)).setCell (p := ⟨w.heap.size + 1, 2, none⟩) (Nat.le_succ _) (.string xv)
                      obtain ⟨W3, hW3⟩ : ∃ W3, W3 = ((w2.setCell ⟨w.heap.size + 1, 0, none⟩ (.string y)).setCell ⟨w.heap.size + 1, 1, none⟩ (.int .i64 12)).setCell ⟨w.heap.size + 1, 2, none⟩ (.string xv) := ⟨_, rfl⟩
                      rw [← hW3] at q0 q1 q2 hbz ⊢
                      have q0' : W3.drew.cell? ⟨w.heap.size + 1, 0, none⟩ = some (.string y) := q0
                      have q1' : W3.drew.cell? ⟨w.heap.size + 1, 1, none⟩ = some (.int .i64 12) := q1
                      have q2' : W3.drew.cell? ⟨w.heap.size + 1, 2, none⟩ = some (.string xv) := q2
                      clear r0 r1 r2 f0 f1 f2 g0' g1' q0 q1 q2 hW3
                      go_wp2_with fail
                      exact bodyPost_ret (v := .tuple #[.agg #[.string y, .int .i64 12, .string xv], .int .i64 0]) (by simp [results, Tryz.results69, go_sem, q0', q1', q2']) rfl ⟨by rw [HN.out]; rfl, below_drewN hbz 1⟩
                  · have HN := hide (show o = .error 4 by rw [HX6.out, if_pos hq])
                    have hql : (2 : Int) < (nn : Int) := by have := HQ.out; have := List.length_pos_iff.2 hq; omega
                    clear hq
                    obtain ⟨r0, r1, r2, f0, f1, f2⟩ := (HD2.out).r.facts
                    obtain ⟨n0, n1, n2, -, -, -⟩ := (HD2.out).n.facts
                    go_wp2_with fail
                    obtain ⟨q0, q1, q2⟩ := (HD2.out).r.store (.string ⟨#[]⟩) (.int .i64 0) (.string ⟨#[]⟩)
                    have hbz := ((((HD2.out).below).setCell (p := ⟨w.heap.size + 1, 0, none⟩) (Nat.le_succ _) (.string ⟨#[]⟩)).setCell (p := ⟨w.heap.size + 1, 1, none⟩) (Nat.le_succ _) (.int .i64 0)).setCell (p := ⟨w.heap.size + 1, 2, none⟩) (Nat.le_succ _) (.string ⟨#[]⟩)
                    obtain ⟨W3, hW3⟩ : ∃ W3, W3 = ((w2.setCell ⟨w.heap.size + 1, 0, none⟩ (.string ⟨#[]⟩)).setCell ⟨w.heap.size + 1, 1, none⟩ (.int .i64 0)).setCell ⟨w.heap.size + 1, 2, none⟩ (.string ⟨#[]⟩) := ⟨_, rfl⟩
                    rw [← hW3] at q0 q1 q2 hbz ⊢
                    exact bodyPost_ret (v := .tuple #[.agg #[(.string ⟨#[]⟩), (.int .i64 0), (.string ⟨#[]⟩)], .int .i64 4]) (by simp [results, Tryz.results69, go_sem, q0, q1, q2]) rfl ⟨by rw [HN.out]; rfl, hbz⟩
                · have hcast : ((19 : Nat) : Int) = 19 := rfl
                  rw [hcast] at g0' HX6
                  clear hcast
                  by_cases hq : q = []
                  · have HN := hide (show o = .ok (y.data.toList, 19, xv.data.toList) by rw [HX6.out, if_neg (by simpa using hq)])
                    have hql : ¬ (2 : Int) < (nn : Int) := by have := HQ.out; rw [hq] at this; simp at this; omega
                    clear hq
                    obtain ⟨r0, r1, r2, f0, f1, f2⟩ := HD2.out.r.facts
                    go_wp2_with fail
                    go_region
                    all_goals
                      obtain ⟨q0, q1, q2⟩ := HD2.out.r.store (.string y) (.int .i64 19) (.string xv)
                      have hbz := (((HD2.out.below).setCell (p := ⟨w.heap.size + 1, 0, none⟩) (Nat.le_succ _) (.string y)).setCell (p := ⟨w.heap.size + 1, 1, none⟩) (Nat.le_succ _) (.int .i64 19)).setCell (p := ⟨w.heap.size + 1, 2, none⟩) (Nat.le_succ _) (.string xv)
                      obtain ⟨W3, hW3⟩ : ∃ W3, W3 = ((w2.setCell ⟨w.heap.size + 1, 0, none⟩ (.string y)).setCell ⟨w.heap.size + 1, 1, none⟩ (.int .i64 19)).setCell ⟨w.heap.size + 1, 2, none⟩ (.string xv) := ⟨_, rfl⟩
                      rw [← hW3] at q0 q1 q2 hbz ⊢
                      have q0' : W3.drew.cell? ⟨w.heap.size + 1, 0, none⟩ = some (.string y) := q0
                      have q1' : W3.drew.cell? ⟨w.heap.size + 1, 1, none⟩ = some (.int .i64 19) := q1
                      have q2' : W3.drew.cell? ⟨w.heap.size + 1, 2, none⟩ = some (.string xv) := q2
                      clear r0 r1 r2 f0 f1 f2 g0' g1' q0 q1 q2 hW3
                      go_wp2_with fail
                      exact bodyPost_ret (v := .tuple #[.agg #[.string y, .int .i64 19, .string xv], .int .i64 0]) (by simp [results, Tryz.results69, go_sem, q0', q1', q2']) rfl ⟨by rw [HN.out]; rfl, below_drewN hbz 1⟩
                  · have HN := hide (show o = .error 4 by rw [HX6.out, if_pos hq])
                    have hql : (2 : Int) < (nn : Int) := by have := HQ.out; have := List.length_pos_iff.2 hq; omega
                    clear hq
                    obtain ⟨r0, r1, r2, f0, f1, f2⟩ := (HD2.out).r.facts
                    obtain ⟨n0, n1, n2, -, -, -⟩ := (HD2.out).n.facts
                    go_wp2_with fail
                    obtain ⟨q0, q1, q2⟩ := (HD2.out).r.store (.string ⟨#[]⟩) (.int .i64 0) (.string ⟨#[]⟩)
                    have hbz := ((((HD2.out).below).setCell (p := ⟨w.heap.size + 1, 0, none⟩) (Nat.le_succ _) (.string ⟨#[]⟩)).setCell (p := ⟨w.heap.size + 1, 1, none⟩) (Nat.le_succ _) (.int .i64 0)).setCell (p := ⟨w.heap.size + 1, 2, none⟩) (Nat.le_succ _) (.string ⟨#[]⟩)
                    obtain ⟨W3, hW3⟩ : ∃ W3, W3 = ((w2.setCell ⟨w.heap.size + 1, 0, none⟩ (.string ⟨#[]⟩)).setCell ⟨w.heap.size + 1, 1, none⟩ (.int .i64 0)).setCell ⟨w.heap.size + 1, 2, none⟩ (.string ⟨#[]⟩) := ⟨_, rfl⟩
                    rw [← hW3] at q0 q1 q2 hbz ⊢
                    exact bodyPost_ret (v := .tuple #[.agg #[(.string ⟨#[]⟩), (.int .i64 0), (.string ⟨#[]⟩)], .int .i64 4]) (by simp [results, Tryz.results69, go_sem, q0, q1, q2]) rfl ⟨by rw [HN.out]; rfl, hbz⟩
                · have hcast : ((22 : Nat) : Int) = 22 := rfl
                  rw [hcast] at g0' HX6
                  clear hcast
                  by_cases hq : q = []
                  · have HN := hide (show o = .ok (y.data.toList, 22, xv.data.toList) by rw [HX6.out, if_neg (by simpa using hq)])
                    have hql : ¬ (2 : Int) < (nn : Int) := by have := HQ.out; rw [hq] at this; simp at this; omega
                    clear hq
                    obtain ⟨r0, r1, r2, f0, f1, f2⟩ := HD2.out.r.facts
                    go_wp2_with fail
                    go_region
                    all_goals
                      obtain ⟨q0, q1, q2⟩ := HD2.out.r.store (.string y) (.int .i64 22) (.string xv)
                      have hbz := (((HD2.out.below).setCell (p := ⟨w.heap.size + 1, 0, none⟩) (Nat.le_succ _) (.string y)).setCell (p := ⟨w.heap.size + 1, 1, none⟩) (Nat.le_succ _) (.int .i64 22)).setCell (p := ⟨w.heap.size + 1, 2, none⟩) (Nat.le_succ _) (.string xv)
                      obtain ⟨W3, hW3⟩ : ∃ W3, W3 = ((w2.setCell ⟨w.heap.size + 1, 0, none⟩ (.string y)).setCell ⟨w.heap.size + 1, 1, none⟩ (.int .i64 22)).setCell ⟨w.heap.size + 1, 2, none⟩ (.string xv) := ⟨_, rfl⟩
                      rw [← hW3] at q0 q1 q2 hbz ⊢
                      have q0' : W3.drew.cell? ⟨w.heap.size + 1, 0, none⟩ = some (.string y) := q0
                      have q1' : W3.drew.cell? ⟨w.heap.size + 1, 1, none⟩ = some (.int .i64 22) := q1
                      have q2' : W3.drew.cell? ⟨w.heap.size + 1, 2, none⟩ = some (.string xv) := q2
                      clear r0 r1 r2 f0 f1 f2 g0' g1' q0 q1 q2 hW3
                      go_wp2_with fail
                      exact bodyPost_ret (v := .tuple #[.agg #[.string y, .int .i64 22, .string xv], .int .i64 0]) (by simp [results, Tryz.results69, go_sem, q0', q1', q2']) rfl ⟨by rw [HN.out]; rfl, below_drewN hbz 1⟩
                  · have HN := hide (show o = .error 4 by rw [HX6.out, if_pos hq])
                    have hql : (2 : Int) < (nn : Int) := by have := HQ.out; have := List.length_pos_iff.2 hq; omega
                    clear hq
                    obtain ⟨r0, r1, r2, f0, f1, f2⟩ := (HD2.out).r.facts
                    obtain ⟨n0, n1, n2, -, -, -⟩ := (HD2.out).n.facts
                    go_wp2_with fail
                    obtain ⟨q0, q1, q2⟩ := (HD2.out).r.store (.string ⟨#[]⟩) (.int .i64 0) (.string ⟨#[]⟩)
                    have hbz := ((((HD2.out).below).setCell (p := ⟨w.heap.size + 1, 0, none⟩) (Nat.le_succ _) (.string ⟨#[]⟩)).setCell (p := ⟨w.heap.size + 1, 1, none⟩) (Nat.le_succ _) (.int .i64 0)).setCell (p := ⟨w.heap.size + 1, 2, none⟩) (Nat.le_succ _) (.string ⟨#[]⟩)
                    obtain ⟨W3, hW3⟩ : ∃ W3, W3 = ((w2.setCell ⟨w.heap.size + 1, 0, none⟩ (.string ⟨#[]⟩)).setCell ⟨w.heap.size + 1, 1, none⟩ (.int .i64 0)).setCell ⟨w.heap.size + 1, 2, none⟩ (.string ⟨#[]⟩) := ⟨_, rfl⟩
                    rw [← hW3] at q0 q1 q2 hbz ⊢
                    exact bodyPost_ret (v := .tuple #[.agg #[(.string ⟨#[]⟩), (.int .i64 0), (.string ⟨#[]⟩)], .int .i64 4]) (by simp [results, Tryz.results69, go_sem, q0, q1, q2]) rfl ⟨by rw [HN.out]; rfl, hbz⟩
              · have HN := hide (show o = .error 5 by rw [HX5.out, if_pos (by omega)])
                have t12 : ((vt : Int) == 12) = false := beq_false_of_ne (by omega)
                have t19 : ((vt : Int) == 19) = false := beq_false_of_ne (by omega)
                have t22 : ((vt : Int) == 22) = false := beq_false_of_ne (by omega)
                clear hk
                obtain ⟨r0, r1, r2, f0, f1, f2⟩ := (HD2.out).r.facts
                obtain ⟨n0, n1, n2, -, -, -⟩ := (HD2.out).n.facts
                go_wp2_with fail
                obtain ⟨q0, q1, q2⟩ := (HD2.out).r.store (.string ⟨#[]⟩) (.int .i64 0) (.string ⟨#[]⟩)
                have hbz := ((((HD2.out).below).setCell (p := ⟨w.heap.size + 1, 0, none⟩) (Nat.le_succ _) (.string ⟨#[]⟩)).setCell (p := ⟨w.heap.size + 1, 1, none⟩) (Nat.le_succ _) (.int .i64 0)).setCell (p := ⟨w.heap.size + 1, 2, none⟩) (Nat.le_succ _) (.string ⟨#[]⟩)
                obtain ⟨W3, hW3⟩ : ∃ W3, W3 = ((w2.setCell ⟨w.heap.size + 1, 0, none⟩ (.string ⟨#[]⟩)).setCell ⟨w.heap.size + 1, 1, none⟩ (.int .i64 0)).setCell ⟨w.heap.size + 1, 2, none⟩ (.string ⟨#[]⟩) := ⟨_, rfl⟩
                rw [← hW3] at q0 q1 q2 hbz ⊢
                exact bodyPost_ret (v := .tuple #[.agg #[(.string ⟨#[]⟩), (.int .i64 0), (.string ⟨#[]⟩)], .int .i64 5]) (by simp [results, Tryz.results69, go_sem, q0, q1, q2]) rfl ⟨by rw [HN.out]; rfl, hbz⟩
        · have ht6 : ((at_ : Int) != 6) = true := bne_iff_ne.2 (fun e => h6 (Int.ofNat.inj e))
          have HN := hide (show o = .error 5 by rw [HX2.out, decAL, if_pos h6])
          clear h6
          obtain ⟨r0, r1, r2, f0, f1, f2⟩ := (HD1.out).r.facts
          obtain ⟨n0, n1, n2, -, -, -⟩ := (HD1.out).n.facts
          go_wp2_with fail
          obtain ⟨q0, q1, q2⟩ := (HD1.out).r.store (.string ⟨#[]⟩) (.int .i64 0) (.string ⟨#[]⟩)
          have hbz := ((((HD1.out).below).setCell (p := ⟨w.heap.size + 1, 0, none⟩) (Nat.le_succ _) (.string ⟨#[]⟩)).setCell (p := ⟨w.heap.size + 1, 1, none⟩) (Nat.le_succ _) (.int .i64 0)).setCell (p := ⟨w.heap.size + 1, 2, none⟩) (Nat.le_succ _) (.string ⟨#[]⟩)
          obtain ⟨W3, hW3⟩ : ∃ W3, W3 = ((w1.setCell ⟨w.heap.size + 1, 0, none⟩ (.string ⟨#[]⟩)).setCell ⟨w.heap.size + 1, 1, none⟩ (.int .i64 0)).setCell ⟨w.heap.size + 1, 2, none⟩ (.string ⟨#[]⟩) := ⟨_, rfl⟩
          rw [← hW3] at q0 q1 q2 hbz ⊢
          exact bodyPost_ret (v := .tuple #[.agg #[(.string ⟨#[]⟩), (.int .i64 0), (.string ⟨#[]⟩)], .int .i64 5]) (by simp [results, Tryz.results69, go_sem, q0, q1, q2]) rfl ⟨by rw [HN.out]; rfl, hbz⟩
  · have ht : ((t : Int) != 48) = true := bne_iff_ne.2 (fun e => h48 (Int.ofNat.inj e))
    have HN := hide (show o = .error 5 by rw [← HO.out, decA]; simp only; rw [openF, if_pos (by omega)]; rfl)
    clear h48
    obtain ⟨r0, r1, r2, f0, f1, f2⟩ := (HD0.out).r.facts
    obtain ⟨n0, n1, n2, -, -, -⟩ := (HD0.out).n.facts
    go_wp2_with fail
    obtain ⟨q0, q1, q2⟩ := (HD0.out).r.store (.string ⟨#[]⟩) (.int .i64 0) (.string ⟨#[]⟩)
    have hbz := ((((HD0.out).below).setCell (p := ⟨w.heap.size + 1, 0, none⟩) (Nat.le_succ _) (.string ⟨#[]⟩)).setCell (p := ⟨w.heap.size + 1, 1, none⟩) (Nat.le_succ _) (.int .i64 0)).setCell (p := ⟨w.heap.size + 1, 2, none⟩) (Nat.le_succ _) (.string ⟨#[]⟩)
    obtain ⟨W3, hW3⟩ : ∃ W3, W3 = ((W0.setCell ⟨w.heap.size + 1, 0, none⟩ (.string ⟨#[]⟩)).setCell ⟨w.heap.size + 1, 1, none⟩ (.int .i64 0)).setCell ⟨w.heap.size + 1, 2, none⟩ (.string ⟨#[]⟩) := ⟨_, rfl⟩
    rw [← hW3] at q0 q1 q2 hbz ⊢
    exact bodyPost_ret (v := .tuple #[.agg #[(.string ⟨#[]⟩), (.int .i64 0), (.string ⟨#[]⟩)], .int .i64 5]) (by simp [results, Tryz.results69, go_sem, q0, q1, q2]) rfl ⟨by rw [HN.out]; rfl, hbz⟩
end Go.Proofs.YtbafpgdmnkkclaaGreatDoor

/- The reference's attribute. -/
namespace Go.Proofs.YtbafpgdmnkkclaaGreatDoor
open Go.RowKit

/-- the state of the reference's attribute: the result and 'none' are zero, the decoder stands at rest -/
structure RAt (w : World) (g : Nat) (rest : List Elt) (W : World) : Prop where
  d : DAt w W
  f : FAt W g rest
  hg : w.heap.size + 3 ≤ g
theorem RAt.grow {w : World} {g : Nat} {rest : List Elt} {W W' : World} (h : RAt w g rest W) (hb : Below W.heap.size W W') : RAt w g rest W' := ⟨h.d.grow hb, h.f.below hb, h.hg⟩
theorem RAt.step {w : World} {g : Nat} {rest rest' : List Elt} {W W' : World} (h : RAt w g rest W) (hx : Ex g W W') (hf : FAt W' g rest') : RAt w g rest' W' :=
  ⟨⟨Ex.below h.d.below h.d.below.size (by have := h.hg; omega) hx, h.d.r.ex hx (by have := h.hg; omega), h.d.n.ex hx (by have := h.hg; omega)⟩, hf, h.hg⟩


set_option maxRecDepth 100000 in
set_option maxHeartbeats 16000000 in
theorem rattr_any (t : Nat) (c raw : ByteArray) (hc : c.size ≤ 131072) (w : World) :
    Calls Tryz.prog 43 #[.agg #[.int .i64 (t : Int), .string c, .string raw]] w fun e w' => e = .returned (decAR (decA (t, c.data.toList, raw.data.toList))) ∧ Below w.heap.size w w' := by
  obtain ⟨oo, hoo⟩ : ∃ oo, openF (t : Int) 48 c.data.toList = oo := ⟨_, rfl⟩
  obtain ⟨o, ho⟩ : ∃ o, decA (t, c.data.toList, raw.data.toList) = o := ⟨_, rfl⟩
  have HO := hide (show o = decAG oo by rw [← ho, decA, ← hoo])
  rw [ho]
  have HOO := hide hoo
  clear ho hoo
  obtain ⟨W0, hW0, hd0, hz0, n0, n1, n2⟩ := three_attr w (.int .i64 (t : Int)) (.string c) (.string raw)
  have HD0 := hide hd0
  have hz3 : w.heap.size + 3 ≤ W0.heap.size := by omega
  clear hd0 hz0
  go_enter Tryz.func43, Tryz.ntmps43
  go_upto_region 2 with fail
  simp only [Nat.add_assoc, Nat.reduceAdd]
  rw [← hW0]
  clear hW0
  go_wp2_with fail
  refine (Open_any (t : Int) 48 c raw (by omega) _).mono ?_
  rintro e w2 ⟨hb2, hres⟩
  rw [HOO.out] at hres
  have HD2 := hide (HD0.out.grow hb2)
  have hz2 := hb2.size
  clear n0 n1 n2
  cases oo with
  | error k =>
    obtain rfl : e = _ := hres
    have hk : k ≠ 0 := fun h => by
      have := HOO.out
      rw [h] at this
      unfold openF at this
      split at this
      · cases this
      · exact list_err0 _ _ (Nat.le_refl _) this
    have ht2 : (k != 0) = true := by simpa using hk
    have HN := hide (show o = .error k from HO.out)
    have hdB := HD2.out.grow ((Below.refl w2.heap.size w2).alloc (Nat.le_refl _) (.cells #[.slice none 0 0, .int .i64 0] 70))
    go_upto_region 3 with fail
    obtain ⟨wB, hwB⟩ : ∃ W, W = w2.alloc (.cells #[.slice none 0 0, .int .i64 0] 70) := ⟨_, rfl⟩
    rw [← hwB] at hdB ⊢
    clear hk hwB
    obtain ⟨r0, r1, r2, f0, f1, f2⟩ := (hdB).r.facts
    obtain ⟨n0, n1, n2, -, -, -⟩ := (hdB).n.facts
    go_wp2_with fail
    obtain ⟨q0, q1, q2⟩ := (hdB).r.store (.string ⟨#[]⟩) (.int .i64 0) (.string ⟨#[]⟩)
    have hbz := ((((hdB).below).setCell (p := ⟨w.heap.size + 1, 0, none⟩) (Nat.le_succ _) (.string ⟨#[]⟩)).setCell (p := ⟨w.heap.size + 1, 1, none⟩) (Nat.le_succ _) (.int .i64 0)).setCell (p := ⟨w.heap.size + 1, 2, none⟩) (Nat.le_succ _) (.string ⟨#[]⟩)
    obtain ⟨W3, hW3⟩ : ∃ W3, W3 = ((wB.setCell ⟨w.heap.size + 1, 0, none⟩ (.string ⟨#[]⟩)).setCell ⟨w.heap.size + 1, 1, none⟩ (.int .i64 0)).setCell ⟨w.heap.size + 1, 2, none⟩ (.string ⟨#[]⟩) := ⟨_, rfl⟩
    rw [← hW3] at q0 q1 q2 hbz ⊢
    exact bodyPost_ret (v := .tuple #[.agg #[(.string ⟨#[]⟩), (.int .i64 0), (.string ⟨#[]⟩)], .int .i64 k]) (by simp [results, Tryz.results43, go_sem, q0, q1, q2]) rfl ⟨by rw [HN.out]; rfl, hbz⟩
  | ok l =>
    obtain ⟨A, cp, rfl, hsl⟩ := hres
    have hlis : listF c.data.toList = .ok l := by
      have := HOO.out
      unfold openF at this
      split at this
      · cases this
      · exact this
    have HML := hide (list_is_wrap _ _ _ (Nat.le_refl _) hlis)
    have HX := hide (show o = decAL l from HO.out)
    have hbB := (Below.refl w2.heap.size w2).alloc (Nat.le_refl _) (.cells #[.slice A l.length cp, .int .i64 0] 70)
    obtain ⟨wB, hwB⟩ : ∃ W, W = w2.alloc (.cells #[.slice A l.length cp, .int .i64 0] 70) := ⟨_, rfl⟩
    have hf := FAt.new hsl hwB
    go_upto_region 3 with fail
    rw [← hwB] at hbB ⊢
    have hsB : RAt w w2.heap.size l wB := ⟨HD2.out.grow hbB, hf, by omega⟩
    obtain ⟨g, hg⟩ : ∃ g, g = w2.heap.size := ⟨_, rfl⟩
    rw [← hg] at hsB ⊢
    have HSB := hide hsB
    clear hwB hbB hf hsl hg hsB hlis hb2 hz2 hz3
    cases l with
    | nil =>
      have HN := hide (show o = .error 3 from HX.out)
      have HNE := hide (show (needF [] 6).1 = .error 3 from rfl)
      go_wp2_with fail
      refine (Need_any g [] 6 _ (HSB.out).f).mono ?_
      rintro e w9 ⟨rfl, hf9, hx9⟩
      have hs9 := (HSB.out).step hx9 hf9
      have hsA := hs9.grow ((Below.refl w9.heap.size w9).alloc (Nat.le_refl _) (.cells #[.int .i64 0, .string ⟨#[]⟩, .string ⟨#[]⟩] 61))
      rw [show (needF [] 6).1 = .error 3 from HNE.out, show oneR (.error 3) = .tuple #[.agg #[.int .i64 0, .string ⟨#[]⟩, .string ⟨#[]⟩], .int .i64 3] from rfl]
      go_upto_region 6 with fail
      obtain ⟨wA9, hwA9⟩ : ∃ W, W = w9.alloc (.cells #[.int .i64 0, .string ⟨#[]⟩, .string ⟨#[]⟩] 61) := ⟨_, rfl⟩
      rw [← hwA9] at hsA ⊢
      clear hwA9 hf9 hx9 hs9
      obtain ⟨r0, r1, r2, f0, f1, f2⟩ := (hsA.d).r.facts
      obtain ⟨n0, n1, n2, -, -, -⟩ := (hsA.d).n.facts
      go_wp2_with fail
      obtain ⟨q0, q1, q2⟩ := (hsA.d).r.store (.string ⟨#[]⟩) (.int .i64 0) (.string ⟨#[]⟩)
      have hbz := ((((hsA.d).below).setCell (p := ⟨w.heap.size + 1, 0, none⟩) (Nat.le_succ _) (.string ⟨#[]⟩)).setCell (p := ⟨w.heap.size + 1, 1, none⟩) (Nat.le_succ _) (.int .i64 0)).setCell (p := ⟨w.heap.size + 1, 2, none⟩) (Nat.le_succ _) (.string ⟨#[]⟩)
      obtain ⟨W3, hW3⟩ : ∃ W3, W3 = ((wA9.setCell ⟨w.heap.size + 1, 0, none⟩ (.string ⟨#[]⟩)).setCell ⟨w.heap.size + 1, 1, none⟩ (.int .i64 0)).setCell ⟨w.heap.size + 1, 2, none⟩ (.string ⟨#[]⟩) := ⟨_, rfl⟩
      rw [← hW3] at q0 q1 q2 hbz ⊢
      exact bodyPost_ret (v := .tuple #[.agg #[(.string ⟨#[]⟩), (.int .i64 0), (.string ⟨#[]⟩)], .int .i64 3]) (by simp [results, Tryz.results43, go_sem, q0, q1, q2]) rfl ⟨by rw [HN.out]; rfl, hbz⟩
    | cons a r =>
      obtain ⟨at_, ac, ar⟩ := a
      have hacl := (HML.out (at_, ac, ar) (by simp)).2.2.1
      simp only at hacl
      by_cases h6 : at_ = 6
      · obtain ⟨xa, hxa⟩ : ∃ x : ByteArray, x = ⟨ac.toArray⟩ := ⟨_, rfl⟩
        obtain ⟨xb, hxb⟩ : ∃ x : ByteArray, x = ⟨ar.toArray⟩ := ⟨_, rfl⟩
        have had : ac = xa.data.toList := by rw [hxa]
        rw [had, size_string] at hacl
        have HV2 := hide (show oneR (.ok (at_, ac, ar)) = .tuple #[.agg #[.int .i64 (at_ : Int), .string xa, .string xb], .int .i64 0] by rw [oneR, eltV, hxa, hxb])
        have HNF := hide (show needF ((at_, ac, ar) :: r) 6 = (.ok (at_, ac, ar), r) by rw [needF, if_neg (fun h => h.2 (by rw [h6]; rfl))])
        obtain ⟨d, hd⟩ : ∃ d, decP xa.data.toList = d := ⟨_, rfl⟩
        have HX3 := hide (show o = decAI r d by rw [HX.out, decAL, if_neg (by simpa using h6)]; simp only; rw [had, hd])
        have HDD := hide hd
        clear hxa hxb had hd h6
        go_wp2_with fail
        refine (Need_any g ((at_, ac, ar) :: r) 6 _ HSB.out.f).mono ?_
        rintro e w9 ⟨rfl, hf9, hx9⟩
        rw [HNF.out] at hf9 ⊢
        have hs9 := HSB.out.step hx9 hf9
        rw [HV2.out]
        have hsA := hs9.grow ((Below.refl w9.heap.size w9).alloc (Nat.le_refl _) (.cells #[.int .i64 (at_ : Int), .string xa, .string xb] 61))
        go_upto_region 6 with fail
        obtain ⟨wC, hwC⟩ : ∃ W, W = w9.alloc (.cells #[.int .i64 (at_ : Int), .string xa, .string xb] 61) := ⟨_, rfl⟩
        have m1 : wC.cell? ⟨w9.heap.size, 1, none⟩ = some (.string xa) := by rw [hwC, World.cell?_alloc_new]; rfl
        rw [← hwC] at hsA ⊢
        have HSC := hide hsA
        clear hwC hf9 hx9 hs9 hsA
        go_wp2_with fail
        refine (rDecode_any xa (by omega) _).mono ?_
        rintro e w10 ⟨rfl, hb10⟩
        rw [HDD.out]
        have HSD := hide (HSC.out.grow hb10)
        clear hb10 m1
        cases d with
        | none =>
          have HN := hide (show o = .error 11 from HX3.out)
          rw [show encR none = .tuple #[.string ⟨#[]⟩, .int .i64 11] from rfl]
          obtain ⟨r0, r1, r2, f0, f1, f2⟩ := (HSD.out.d).r.facts
          obtain ⟨n0, n1, n2, -, -, -⟩ := (HSD.out.d).n.facts
          go_wp2_with fail
          obtain ⟨q0, q1, q2⟩ := (HSD.out.d).r.store (.string ⟨#[]⟩) (.int .i64 0) (.string ⟨#[]⟩)
          have hbz := ((((HSD.out.d).below).setCell (p := ⟨w.heap.size + 1, 0, none⟩) (Nat.le_succ _) (.string ⟨#[]⟩)).setCell (p := ⟨w.heap.size + 1, 1, none⟩) (Nat.le_succ _) (.int .i64 0)).setCell (p := ⟨w.heap.size + 1, 2, none⟩) (Nat.le_succ _) (.string ⟨#[]⟩)
          obtain ⟨W3, hW3⟩ : ∃ W3, W3 = ((w10.setCell ⟨w.heap.size + 1, 0, none⟩ (.string ⟨#[]⟩)).setCell ⟨w.heap.size + 1, 1, none⟩ (.int .i64 0)).setCell ⟨w.heap.size + 1, 2, none⟩ (.string ⟨#[]⟩) := ⟨_, rfl⟩
          rw [← hW3] at q0 q1 q2 hbz ⊢
          exact bodyPost_ret (v := .tuple #[.agg #[(.string ⟨#[]⟩), (.int .i64 0), (.string ⟨#[]⟩)], .int .i64 11]) (by simp [results, Tryz.results43, go_sem, q0, q1, q2]) rfl ⟨by rw [HN.out]; rfl, hbz⟩
        | some id =>
          obtain ⟨y, hy⟩ : ∃ y : ByteArray, y = ⟨id.toArray⟩ := ⟨_, rfl⟩
          have hyd : id = y.data.toList := by rw [hy]
          rw [show encR (some id) = .tuple #[.string y, .int .i64 0] by rw [hy]; rfl]
          have HX4 := hide (show o = decAV y.data.toList r by rw [← hyd]; exact HX3.out)
          clear hy hyd
          cases r with
          | nil =>
            have HN := hide (show o = .error 3 from HX4.out)
            have HNE := hide (show (needF [] (-1)).1 = .error 3 from rfl)
            go_wp2_with fail
            refine (Need_any g [] (-1) _ (HSD.out).f).mono ?_
            rintro e w9 ⟨rfl, hf9, hx9⟩
            have hs9 := (HSD.out).step hx9 hf9
            have hsA := hs9.grow ((Below.refl w9.heap.size w9).alloc (Nat.le_refl _) (.cells #[.int .i64 0, .string ⟨#[]⟩, .string ⟨#[]⟩] 61))
            rw [show (needF [] (-1)).1 = .error 3 from HNE.out, show oneR (.error 3) = .tuple #[.agg #[.int .i64 0, .string ⟨#[]⟩, .string ⟨#[]⟩], .int .i64 3] from rfl]
            go_upto_region 12 with fail
            obtain ⟨wA9, hwA9⟩ : ∃ W, W = w9.alloc (.cells #[.int .i64 0, .string ⟨#[]⟩, .string ⟨#[]⟩] 61) := ⟨_, rfl⟩
            rw [← hwA9] at hsA ⊢
            clear hwA9 hf9 hx9 hs9
            obtain ⟨r0, r1, r2, f0, f1, f2⟩ := (hsA.d).r.facts
            obtain ⟨n0, n1, n2, -, -, -⟩ := (hsA.d).n.facts
            go_wp2_with fail
            obtain ⟨q0, q1, q2⟩ := (hsA.d).r.store (.string ⟨#[]⟩) (.int .i64 0) (.string ⟨#[]⟩)
            have hbz := ((((hsA.d).below).setCell (p := ⟨w.heap.size + 1, 0, none⟩) (Nat.le_succ _) (.string ⟨#[]⟩)).setCell (p := ⟨w.heap.size + 1, 1, none⟩) (Nat.le_succ _) (.int .i64 0)).setCell (p := ⟨w.heap.size + 1, 2, none⟩) (Nat.le_succ _) (.string ⟨#[]⟩)
            obtain ⟨W3, hW3⟩ : ∃ W3, W3 = ((wA9.setCell ⟨w.heap.size + 1, 0, none⟩ (.string ⟨#[]⟩)).setCell ⟨w.heap.size + 1, 1, none⟩ (.int .i64 0)).setCell ⟨w.heap.size + 1, 2, none⟩ (.string ⟨#[]⟩) := ⟨_, rfl⟩
            rw [← hW3] at q0 q1 q2 hbz ⊢
            exact bodyPost_ret (v := .tuple #[.agg #[(.string ⟨#[]⟩), (.int .i64 0), (.string ⟨#[]⟩)], .int .i64 3]) (by simp [results, Tryz.results43, go_sem, q0, q1, q2]) rfl ⟨by rw [HN.out]; rfl, hbz⟩
          | cons v q =>
            obtain ⟨vt, vc, vr⟩ := v
            obtain ⟨xv, hxv⟩ : ∃ x : ByteArray, x = ⟨vc.toArray⟩ := ⟨_, rfl⟩
            obtain ⟨xw, hxw⟩ : ∃ x : ByteArray, x = ⟨vr.toArray⟩ := ⟨_, rfl⟩
            have hvd : vc = xv.data.toList := by rw [hxv]
            have HV3 := hide (show oneR (.ok (vt, vc, vr)) = .tuple #[.agg #[.int .i64 (vt : Int), .string xv, .string xw], .int .i64 0] by rw [oneR, eltV, hxv, hxw])
            have HNF3 := hide (show needF ((vt, vc, vr) :: q) (-1) = (.ok (vt, vc, vr), q) by rw [needF, if_neg (fun h => by have := h.1; omega)])
            have HX5 := hide (show o = if vt ≠ 12 ∧ vt ≠ 19 ∧ vt ≠ 22 then .error 5 else if q ≠ [] then .error 4 else .ok (y.data.toList, (vt : Int), xv.data.toList) by rw [HX4.out, decAV, hvd])
            clear hxv hxw hvd
            go_wp2_with fail
            refine (Need_any g ((vt, vc, vr) :: q) (-1) _ HSD.out.f).mono ?_
            rintro e w11 ⟨rfl, hf11, hx11⟩
            rw [HNF3.out] at hf11 ⊢
            have hs11 := HSD.out.step hx11 hf11
            rw [HV3.out]
            have hsE := hs11.grow ((Below.refl w11.heap.size w11).alloc (Nat.le_refl _) (.cells #[.int .i64 (vt : Int), .string xv, .string xw] 61))
            go_upto_region 12 with fail
            obtain ⟨wE, hwE⟩ : ∃ W, W = w11.alloc (.cells #[.int .i64 (vt : Int), .string xv, .string xw] 61) := ⟨_, rfl⟩
            have m0 : wE.cell? ⟨w11.heap.size, 0, none⟩ = some (.int .i64 (vt : Int)) := by rw [hwE, World.cell?_alloc_new]; rfl
            have m1 : wE.cell? ⟨w11.heap.size, 1, none⟩ = some (.string xv) := by rw [hwE, World.cell?_alloc_new]; rfl
            rw [← hwE] at hsE ⊢
            have HSE := hide hsE
            clear hwE hf11 hx11 hs11 hsE
            by_cases hk : vt = 12 ∨ vt = 19 ∨ vt = 22
            · have HX6 := hide (show o = if q ≠ [] then .error 4 else .ok (y.data.toList, (vt : Int), xv.data.toList) by rw [HX5.out, if_neg (by omega)])
              rcases hk with rfl | rfl | rfl
              · have hcast : ((12 : Nat) : Int) = 12 := rfl
                rw [hcast] at m0 HX6
                clear hcast
                go_wp2_with fail
                refine (End_any g q _ HSE.out.f).mono ?_
                rintro e w14 ⟨rfl, n14, rfl⟩
                obtain ⟨ge, hge⟩ : ∃ ge, w11.heap.size = ge := ⟨_, rfl⟩
                rw [hge] at m0 m1 ⊢
                have HSH := hide (HSE.out.grow (below_drewN (Below.refl _ _) n14))
                have k0 : (wE.drewN n14).cell? ⟨ge, 0, none⟩ = some (.int .i64 12) := m0
                have k1 : (wE.drewN n14).cell? ⟨ge, 1, none⟩ = some (.string xv) := m1
                obtain ⟨w14, hw14⟩ : ∃ W, W = wE.drewN n14 := ⟨_, rfl⟩
                rw [← hw14] at HSH k0 k1 ⊢
                clear hw14 m0 m1 hge
                by_cases hq : q = []
                · have HN := hide (show o = .ok (y.data.toList, 12, xv.data.toList) by rw [HX6.out, if_neg (by simpa using hq)])
                  rw [if_pos hq]
                  clear hq
                  obtain ⟨r0, r1, r2, f0, f1, f2⟩ := HSH.out.d.r.facts
                  obtain ⟨n0, n1, n2, -, -, -⟩ := HSH.out.d.n.facts
                  go_wp2_with fail
                  obtain ⟨q0, q1, q2⟩ := (HSH.out.d).r.store (.string y) (.int .i64 12) (.string xv)
                  have hbz := ((((HSH.out.d).below).setCell (p := ⟨w.heap.size + 1, 0, none⟩) (Nat.le_succ _) (.string y)).setCell (p := ⟨w.heap.size + 1, 1, none⟩) (Nat.le_succ _) (.int .i64 12)).setCell (p := ⟨w.heap.size + 1, 2, none⟩) (Nat.le_succ _) (.string xv)
                  obtain ⟨W3, hW3⟩ : ∃ W3, W3 = ((w14.setCell ⟨w.heap.size + 1, 0, none⟩ (.string y)).setCell ⟨w.heap.size + 1, 1, none⟩ (.int .i64 12)).setCell ⟨w.heap.size + 1, 2, none⟩ (.string xv) := ⟨_, rfl⟩
                  rw [← hW3] at q0 q1 q2 hbz ⊢
                  exact bodyPost_ret (v := .tuple #[.agg #[(.string y), (.int .i64 12), (.string xv)], .int .i64 0]) (by simp [results, Tryz.results43, go_sem, q0, q1, q2]) rfl ⟨by rw [HN.out]; rfl, hbz⟩
                · have HN := hide (show o = .error 4 by rw [HX6.out, if_pos hq])
                  rw [if_neg hq]
                  clear hq
                  obtain ⟨r0, r1, r2, f0, f1, f2⟩ := (HSH.out.d).r.facts
                  obtain ⟨n0, n1, n2, -, -, -⟩ := (HSH.out.d).n.facts
                  go_wp2_with fail
                  obtain ⟨q0, q1, q2⟩ := (HSH.out.d).r.store (.string ⟨#[]⟩) (.int .i64 0) (.string ⟨#[]⟩)
                  have hbz := ((((HSH.out.d).below).setCell (p := ⟨w.heap.size + 1, 0, none⟩) (Nat.le_succ _) (.string ⟨#[]⟩)).setCell (p := ⟨w.heap.size + 1, 1, none⟩) (Nat.le_succ _) (.int .i64 0)).setCell (p := ⟨w.heap.size + 1, 2, none⟩) (Nat.le_succ _) (.string ⟨#[]⟩)
                  obtain ⟨W3, hW3⟩ : ∃ W3, W3 = ((w14.setCell ⟨w.heap.size + 1, 0, none⟩ (.string ⟨#[]⟩)).setCell ⟨w.heap.size + 1, 1, none⟩ (.int .i64 0)).setCell ⟨w.heap.size + 1, 2, none⟩ (.string ⟨#[]⟩) := ⟨_, rfl⟩
                  rw [← hW3] at q0 q1 q2 hbz ⊢
                  exact bodyPost_ret (v := .tuple #[.agg #[(.string ⟨#[]⟩), (.int .i64 0), (.string ⟨#[]⟩)], .int .i64 4]) (by simp [results, Tryz.results43, go_sem, q0, q1, q2]) rfl ⟨by rw [HN.out]; rfl, hbz⟩
              · have hcast : ((19 : Nat) : Int) = 19 := rfl
                rw [hcast] at m0 HX6
                clear hcast
                go_wp2_with fail
                refine (End_any g q _ HSE.out.f).mono ?_
                rintro e w14 ⟨rfl, n14, rfl⟩
                obtain ⟨ge, hge⟩ : ∃ ge, w11.heap.size = ge := ⟨_, rfl⟩
                rw [hge] at m0 m1 ⊢
                have HSH := hide (HSE.out.grow (below_drewN (Below.refl _ _) n14))
                have k0 : (wE.drewN n14).cell? ⟨ge, 0, none⟩ = some (.int .i64 19) := m0
                have k1 : (wE.drewN n14).cell? ⟨ge, 1, none⟩ = some (.string xv) := m1
                obtain ⟨w14, hw14⟩ : ∃ W, W = wE.drewN n14 := ⟨_, rfl⟩
                rw [← hw14] at HSH k0 k1 ⊢
                clear hw14 m0 m1 hge
                by_cases hq : q = []
                · have HN := hide (show o = .ok (y.data.toList, 19, xv.data.toList) by rw [HX6.out, if_neg (by simpa using hq)])
                  rw [if_pos hq]
                  clear hq
                  obtain ⟨r0, r1, r2, f0, f1, f2⟩ := HSH.out.d.r.facts
                  obtain ⟨n0, n1, n2, -, -, -⟩ := HSH.out.d.n.facts
                  go_wp2_with fail
                  obtain ⟨q0, q1, q2⟩ := (HSH.out.d).r.store (.string y) (.int .i64 19) (.string xv)
                  have hbz := ((((HSH.out.d).below).setCell (p := ⟨w.heap.size + 1, 0, none⟩) (Nat.le_succ _) (.string y)).setCell (p := ⟨w.heap.size + 1, 1, none⟩) (Nat.le_succ _) (.int .i64 19)).setCell (p := ⟨w.heap.size + 1, 2, none⟩) (Nat.le_succ _) (.string xv)
                  obtain ⟨W3, hW3⟩ : ∃ W3, W3 = ((w14.setCell ⟨w.heap.size + 1, 0, none⟩ (.string y)).setCell ⟨w.heap.size + 1, 1, none⟩ (.int .i64 19)).setCell ⟨w.heap.size + 1, 2, none⟩ (.string xv) := ⟨_, rfl⟩
                  rw [← hW3] at q0 q1 q2 hbz ⊢
                  exact bodyPost_ret (v := .tuple #[.agg #[(.string y), (.int .i64 19), (.string xv)], .int .i64 0]) (by simp [results, Tryz.results43, go_sem, q0, q1, q2]) rfl ⟨by rw [HN.out]; rfl, hbz⟩
                · have HN := hide (show o = .error 4 by rw [HX6.out, if_pos hq])
                  rw [if_neg hq]
                  clear hq
                  obtain ⟨r0, r1, r2, f0, f1, f2⟩ := (HSH.out.d).r.facts
                  obtain ⟨n0, n1, n2, -, -, -⟩ := (HSH.out.d).n.facts
                  go_wp2_with fail
                  obtain ⟨q0, q1, q2⟩ := (HSH.out.d).r.store (.string ⟨#[]⟩) (.int .i64 0) (.string ⟨#[]⟩)
                  have hbz := ((((HSH.out.d).below).setCell (p := ⟨w.heap.size + 1, 0, none⟩) (Nat.le_succ _) (.string ⟨#[]⟩)).setCell (p := ⟨w.heap.size + 1, 1, none⟩) (Nat.le_succ _) (.int .i64 0)).setCell (p := ⟨w.heap.size + 1, 2, none⟩) (Nat.le_succ _) (.string ⟨#[]⟩)
                  obtain ⟨W3, hW3⟩ : ∃ W3, W3 = ((w14.setCell ⟨w.heap.size + 1, 0, none⟩ (.string ⟨#[]⟩)).setCell ⟨w.heap.size + 1, 1, none⟩ (.int .i64 0)).setCell ⟨w.heap.size + 1, 2, none⟩ (.string ⟨#[]⟩) := ⟨_, rfl⟩
                  rw [← hW3] at q0 q1 q2 hbz ⊢
                  exact bodyPost_ret (v := .tuple #[.agg #[(.string ⟨#[]⟩), (.int .i64 0), (.string ⟨#[]⟩)], .int .i64 4]) (by simp [results, Tryz.results43, go_sem, q0, q1, q2]) rfl ⟨by rw [HN.out]; rfl, hbz⟩
              · have hcast : ((22 : Nat) : Int) = 22 := rfl
                rw [hcast] at m0 HX6
                clear hcast
                go_wp2_with fail
                refine (End_any g q _ HSE.out.f).mono ?_
                rintro e w14 ⟨rfl, n14, rfl⟩
                obtain ⟨ge, hge⟩ : ∃ ge, w11.heap.size = ge := ⟨_, rfl⟩
                rw [hge] at m0 m1 ⊢
                have HSH := hide (HSE.out.grow (below_drewN (Below.refl _ _) n14))
                have k0 : (wE.drewN n14).cell? ⟨ge, 0, none⟩ = some (.int .i64 22) := m0
                have k1 : (wE.drewN n14).cell? ⟨ge, 1, none⟩ = some (.string xv) := m1
                obtain ⟨w14, hw14⟩ : ∃ W, W = wE.drewN n14 := ⟨_, rfl⟩
                rw [← hw14] at HSH k0 k1 ⊢
                clear hw14 m0 m1 hge
                by_cases hq : q = []
                · have HN := hide (show o = .ok (y.data.toList, 22, xv.data.toList) by rw [HX6.out, if_neg (by simpa using hq)])
                  rw [if_pos hq]
                  clear hq
                  obtain ⟨r0, r1, r2, f0, f1, f2⟩ := HSH.out.d.r.facts
                  obtain ⟨n0, n1, n2, -, -, -⟩ := HSH.out.d.n.facts
                  go_wp2_with fail
                  obtain ⟨q0, q1, q2⟩ := (HSH.out.d).r.store (.string y) (.int .i64 22) (.string xv)
                  have hbz := ((((HSH.out.d).below).setCell (p := ⟨w.heap.size + 1, 0, none⟩) (Nat.le_succ _) (.string y)).setCell (p := ⟨w.heap.size + 1, 1, none⟩) (Nat.le_succ _) (.int .i64 22)).setCell (p := ⟨w.heap.size + 1, 2, none⟩) (Nat.le_succ _) (.string xv)
                  obtain ⟨W3, hW3⟩ : ∃ W3, W3 = ((w14.setCell ⟨w.heap.size + 1, 0, none⟩ (.string y)).setCell ⟨w.heap.size + 1, 1, none⟩ (.int .i64 22)).setCell ⟨w.heap.size + 1, 2, none⟩ (.string xv) := ⟨_, rfl⟩
                  rw [← hW3] at q0 q1 q2 hbz ⊢
                  exact bodyPost_ret (v := .tuple #[.agg #[(.string y), (.int .i64 22), (.string xv)], .int .i64 0]) (by simp [results, Tryz.results43, go_sem, q0, q1, q2]) rfl ⟨by rw [HN.out]; rfl, hbz⟩
                · have HN := hide (show o = .error 4 by rw [HX6.out, if_pos hq])
                  rw [if_neg hq]
                  clear hq
                  obtain ⟨r0, r1, r2, f0, f1, f2⟩ := (HSH.out.d).r.facts
                  obtain ⟨n0, n1, n2, -, -, -⟩ := (HSH.out.d).n.facts
                  go_wp2_with fail
                  obtain ⟨q0, q1, q2⟩ := (HSH.out.d).r.store (.string ⟨#[]⟩) (.int .i64 0) (.string ⟨#[]⟩)
                  have hbz := ((((HSH.out.d).below).setCell (p := ⟨w.heap.size + 1, 0, none⟩) (Nat.le_succ _) (.string ⟨#[]⟩)).setCell (p := ⟨w.heap.size + 1, 1, none⟩) (Nat.le_succ _) (.int .i64 0)).setCell (p := ⟨w.heap.size + 1, 2, none⟩) (Nat.le_succ _) (.string ⟨#[]⟩)
                  obtain ⟨W3, hW3⟩ : ∃ W3, W3 = ((w14.setCell ⟨w.heap.size + 1, 0, none⟩ (.string ⟨#[]⟩)).setCell ⟨w.heap.size + 1, 1, none⟩ (.int .i64 0)).setCell ⟨w.heap.size + 1, 2, none⟩ (.string ⟨#[]⟩) := ⟨_, rfl⟩
                  rw [← hW3] at q0 q1 q2 hbz ⊢
                  exact bodyPost_ret (v := .tuple #[.agg #[(.string ⟨#[]⟩), (.int .i64 0), (.string ⟨#[]⟩)], .int .i64 4]) (by simp [results, Tryz.results43, go_sem, q0, q1, q2]) rfl ⟨by rw [HN.out]; rfl, hbz⟩
            · have HN := hide (show o = .error 5 by rw [HX5.out, if_pos (by omega)])
              have t12 : ((vt : Int) != 12) = true := bne_iff_ne.2 (by omega)
              have t19 : ((vt : Int) != 19) = true := bne_iff_ne.2 (by omega)
              have t22 : ((vt : Int) != 22) = true := bne_iff_ne.2 (by omega)
              clear hk
              obtain ⟨r0, r1, r2, f0, f1, f2⟩ := (HSE.out.d).r.facts
              obtain ⟨n0, n1, n2, -, -, -⟩ := (HSE.out.d).n.facts
              go_wp2_with fail
              obtain ⟨q0, q1, q2⟩ := (HSE.out.d).r.store (.string ⟨#[]⟩) (.int .i64 0) (.string ⟨#[]⟩)
              have hbz := ((((HSE.out.d).below).setCell (p := ⟨w.heap.size + 1, 0, none⟩) (Nat.le_succ _) (.string ⟨#[]⟩)).setCell (p := ⟨w.heap.size + 1, 1, none⟩) (Nat.le_succ _) (.int .i64 0)).setCell (p := ⟨w.heap.size + 1, 2, none⟩) (Nat.le_succ _) (.string ⟨#[]⟩)
              obtain ⟨W3, hW3⟩ : ∃ W3, W3 = ((wE.setCell ⟨w.heap.size + 1, 0, none⟩ (.string ⟨#[]⟩)).setCell ⟨w.heap.size + 1, 1, none⟩ (.int .i64 0)).setCell ⟨w.heap.size + 1, 2, none⟩ (.string ⟨#[]⟩) := ⟨_, rfl⟩
              rw [← hW3] at q0 q1 q2 hbz ⊢
              exact bodyPost_ret (v := .tuple #[.agg #[(.string ⟨#[]⟩), (.int .i64 0), (.string ⟨#[]⟩)], .int .i64 5]) (by simp [results, Tryz.results43, go_sem, q0, q1, q2]) rfl ⟨by rw [HN.out]; rfl, hbz⟩
      · have HNE := hide (show (needF ((at_, ac, ar) :: r) 6).1 = .error 5 by rw [needF, if_pos ⟨by omega, fun e => h6 (by simp only at e; omega)⟩])
        have HN := hide (show o = .error 5 by rw [HX.out, decAL, if_pos h6])
        clear h6
        go_wp2_with fail
        refine (Need_any g ((at_, ac, ar) :: r) 6 _ (HSB.out).f).mono ?_
        rintro e w9 ⟨rfl, hf9, hx9⟩
        have hs9 := (HSB.out).step hx9 hf9
        have hsA := hs9.grow ((Below.refl w9.heap.size w9).alloc (Nat.le_refl _) (.cells #[.int .i64 0, .string ⟨#[]⟩, .string ⟨#[]⟩] 61))
        rw [show (needF ((at_, ac, ar) :: r) 6).1 = .error 5 from HNE.out, show oneR (.error 5) = .tuple #[.agg #[.int .i64 0, .string ⟨#[]⟩, .string ⟨#[]⟩], .int .i64 5] from rfl]
        go_upto_region 6 with fail
        obtain ⟨wA9, hwA9⟩ : ∃ W, W = w9.alloc (.cells #[.int .i64 0, .string ⟨#[]⟩, .string ⟨#[]⟩] 61) := ⟨_, rfl⟩
        rw [← hwA9] at hsA ⊢
        clear hwA9 hf9 hx9 hs9
        obtain ⟨r0, r1, r2, f0, f1, f2⟩ := (hsA.d).r.facts
        obtain ⟨n0, n1, n2, -, -, -⟩ := (hsA.d).n.facts
        go_wp2_with fail
        obtain ⟨q0, q1, q2⟩ := (hsA.d).r.store (.string ⟨#[]⟩) (.int .i64 0) (.string ⟨#[]⟩)
        have hbz := ((((hsA.d).below).setCell (p := ⟨w.heap.size + 1, 0, none⟩) (Nat.le_succ _) (.string ⟨#[]⟩)).setCell (p := ⟨w.heap.size + 1, 1, none⟩) (Nat.le_succ _) (.int .i64 0)).setCell (p := ⟨w.heap.size + 1, 2, none⟩) (Nat.le_succ _) (.string ⟨#[]⟩)
        obtain ⟨W3, hW3⟩ : ∃ W3, W3 = ((wA9.setCell ⟨w.heap.size + 1, 0, none⟩ (.string ⟨#[]⟩)).setCell ⟨w.heap.size + 1, 1, none⟩ (.int .i64 0)).setCell ⟨w.heap.size + 1, 2, none⟩ (.string ⟨#[]⟩) := ⟨_, rfl⟩
        rw [← hW3] at q0 q1 q2 hbz ⊢
        exact bodyPost_ret (v := .tuple #[.agg #[(.string ⟨#[]⟩), (.int .i64 0), (.string ⟨#[]⟩)], .int .i64 5]) (by simp [results, Tryz.results43, go_sem, q0, q1, q2]) rfl ⟨by rw [HN.out]; rfl, hbz⟩
end Go.Proofs.YtbafpgdmnkkclaaGreatDoor
