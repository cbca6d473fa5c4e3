/- Elements: One, both sides. -/
import Derived.Test.YtbafpgdmnkkclaaDoorTlvD
namespace Go.Proofs.YtbafpgdmnkkclaaDoor
open Go.RowKit

def oneR : Except Int Elt → Value
  | .error k => .tuple #[noElt, .int .i64 k]
  | .ok e => .tuple #[eltV e, .int .i64 0]
theorem resE_new (w : World) : ResE w.heap.size (w.alloc (.cells #[.int .i64 0, .string ⟨#[]⟩, .string ⟨#[]⟩] 38)) := heap_alloc_new w _
theorem str_nil {l : List UInt8} {x : ByteArray} (h : x = ⟨l.toArray⟩) : l = [] ↔ x.size = 0 := by
  subst h
  constructor
  · intro h; subst h; rfl
  · intro h; exact List.eq_nil_of_length_eq_zero h
def oneG : Except Int (Elt × List UInt8) → Except Int Elt
  | .error k => .error k
  | .ok (e, r) => if r = [] then .ok e else .error 4
theorem oneF_eq (b : List UInt8) : oneF b = oneG (readF b) := by
  unfold oneF oneG
  cases readF b <;> rfl

set_option maxRecDepth 100000 in
set_option maxHeartbeats 4000000 in
theorem One_any (s : ByteArray) (hs : s.size ≤ 1000000000) (w : World) :
    Calls Tryd.prog 31 #[.string s] w fun e w' => e = .returned (oneR (oneF s.data.toList)) ∧ Below w.heap.size w w' := by
  obtain ⟨r, hr⟩ : ∃ r, readF s.data.toList = r := ⟨_, rfl⟩
  obtain ⟨o, ho⟩ : ∃ o, oneF s.data.toList = o := ⟨_, rfl⟩
  rw [ho]
  have HO := hide (show o = oneG r by rw [← ho, oneF_eq, hr])
  have HR := hide hr
  clear hr ho
  go_enter Tryd.func31, Tryd.ntmps31
  go_wp2_with fail
  refine (Read_any s hs _).mono ?_
  rintro e w1 ⟨rfl, hb1⟩
  rw [HR.out]
  have hb0 : Below w.heap.size w w1 := ((Below.refl _ _).alloc (Nat.le_refl _) _).trans (hb1.mono (by simp))
  have hr1 : ResE w.heap.size w1 := (resE_new w).below hb1
  have hgl : w.heap.size < w1.heap.size := hr1.lt
  have HR1 := hide hr1
  have HB1 := hide hb0
  clear hr1 hb0 hb1
  cases r with
  | error k =>
    have hk : k ≠ 0 := fun h => read_err0 _ (h ▸ HR.out)
    have ht : (k != 0) = true := by simpa using hk
    have HN := hide (show o = .error k from HO.out)
    have hrA := HR1.out.below ((Below.refl w1.heap.size w1).alloc (Nat.le_refl _) (.cells #[.int .i64 0, .string ⟨#[]⟩, .string ⟨#[]⟩] 38))
    have hbA := HB1.out.alloc HB1.out.size (.cells #[.int .i64 0, .string ⟨#[]⟩, .string ⟨#[]⟩] 38)
    rw [show readR (.error k) = .tuple #[.agg #[.int .i64 0, .string ⟨#[]⟩, .string ⟨#[]⟩], .string ⟨#[]⟩, .int .i64 k] from rfl]
    clear hk
    go_upto_region 2 with fail
    obtain ⟨wA, hwA⟩ : ∃ W, W = w1.alloc (.cells #[.int .i64 0, .string ⟨#[]⟩, .string ⟨#[]⟩] 38) := ⟨_, rfl⟩
    rw [← hwA] at hrA hbA ⊢
    clear hwA
    obtain ⟨r0, r1, r2, f0, f1, f2⟩ := hrA.facts
    go_wp2_with fail
    obtain ⟨q0, q1, q2⟩ := hrA.store (.int .i64 0) (.string ⟨#[]⟩) (.string ⟨#[]⟩)
    have hbz := below_store3' hbA (Nat.le_refl w.heap.size) (.int .i64 0) (.string ⟨#[]⟩) (.string ⟨#[]⟩)
    obtain ⟨W3, hW3⟩ : ∃ W3, W3 = ((wA.setCell ⟨w.heap.size, 0, none⟩ (.int .i64 0)).setCell ⟨w.heap.size, 1, none⟩ (.string ⟨#[]⟩)).setCell ⟨w.heap.size, 2, none⟩ (.string ⟨#[]⟩) := ⟨_, rfl⟩
    rw [← hW3] at q0 q1 q2 hbz ⊢
    exact bodyPost_ret (v := .tuple #[.agg #[(.int .i64 0), (.string ⟨#[]⟩), (.string ⟨#[]⟩)], .int .i64 k]) (by simp [results, Tryd.results31, go_sem, q0, q1, q2]) rfl ⟨by rw [HN.out]; rfl, hbz⟩
  | ok p =>
    obtain ⟨⟨t, c, raw⟩, q⟩ := p
    obtain ⟨x1, hx1⟩ : ∃ x : ByteArray, x = ⟨c.toArray⟩ := ⟨_, rfl⟩
    obtain ⟨x2, hx2⟩ : ∃ x : ByteArray, x = ⟨raw.toArray⟩ := ⟨_, rfl⟩
    obtain ⟨x3, hx3⟩ : ∃ x : ByteArray, x = ⟨q.toArray⟩ := ⟨_, rfl⟩
    have HV := hide (show eltV (t, c, raw) = .agg #[.int .i64 (t : Int), .string x1, .string x2] by rw [eltV, hx1, hx2])
    rw [show readR (.ok ((t, c, raw), q)) = .tuple #[.agg #[.int .i64 (t : Int), .string x1, .string x2], .string x3, .int .i64 0] by rw [readR, HV.out, hx3]]
    have hrA := HR1.out.below ((Below.refl w1.heap.size w1).alloc (Nat.le_refl _) (.cells #[.int .i64 (t : Int), .string x1, .string x2] 38))
    have hbA := HB1.out.alloc HB1.out.size (.cells #[.int .i64 (t : Int), .string x1, .string x2] 38)
    have hq := str_nil hx3
    have hxs := size_string x3
    clear hx1 hx2 hx3
    go_upto_region 2 with fail
    obtain ⟨wA, hwA⟩ : ∃ W, W = w1.alloc (.cells #[.int .i64 (t : Int), .string x1, .string x2] 38) := ⟨_, rfl⟩
    have n0 : wA.cell? ⟨w1.heap.size, 0, none⟩ = some (.int .i64 (t : Int)) := by rw [hwA, World.cell?_alloc_new]; rfl
    have n1 : wA.cell? ⟨w1.heap.size, 1, none⟩ = some (.string x1) := by rw [hwA, World.cell?_alloc_new]; rfl
    have n2 : wA.cell? ⟨w1.heap.size, 2, none⟩ = some (.string x2) := by rw [hwA, World.cell?_alloc_new]; rfl
    rw [← hwA] at hrA hbA ⊢
    clear hwA
    obtain ⟨r0, r1, r2, f0, f1, f2⟩ := hrA.facts
    by_cases h0 : x3.size = 0
    · have HN := hide (show o = .ok (t, c, raw) by rw [HO.out, oneG, if_pos (hq.2 h0)])
      have e1 : x3.toList = [] := by rw [ByteArray.toList_eq]; exact List.eq_nil_of_length_eq_zero (by omega)
      have e2 : ¬ (0 : Int) < (x3.size : Int) := by omega
      clear hq h0 hxs
      go_wp2_with fail
      obtain ⟨q0, q1, q2⟩ := hrA.store (.int .i64 (t : Int)) (.string x1) (.string x2)
      have hbz := below_store3' hbA (Nat.le_refl w.heap.size) (.int .i64 (t : Int)) (.string x1) (.string x2)
      obtain ⟨W3, hW3⟩ : ∃ W3, W3 = ((wA.setCell ⟨w.heap.size, 0, none⟩ (.int .i64 (t : Int))).setCell ⟨w.heap.size, 1, none⟩ (.string x1)).setCell ⟨w.heap.size, 2, none⟩ (.string x2) := ⟨_, rfl⟩
      rw [← hW3] at q0 q1 q2 hbz ⊢
      exact bodyPost_ret (v := .tuple #[.agg #[(.int .i64 (t : Int)), (.string x1), (.string x2)], .int .i64 0]) (by simp [results, Tryd.results31, go_sem, q0, q1, q2]) rfl ⟨by rw [HN.out, oneR, HV.out], hbz⟩
    · have HN := hide (show o = .error 4 by rw [HO.out, oneG, if_neg (fun h => h0 (hq.1 h))])
      have e0 : ¬ x3.toList = [] := by rw [ByteArray.toList_eq]; intro e; rw [e] at hxs; simp at hxs; omega
      have e1 : (x3.toList == []) = false := by simpa using e0
      have e3 : x3.toList.isEmpty = false := by simpa using e0
      have e2 : (0 : Int) < (x3.size : Int) := by omega
      clear hq h0 hxs e0
      go_wp2_with fail
      obtain ⟨q0, q1, q2⟩ := hrA.store (.int .i64 0) (.string ⟨#[]⟩) (.string ⟨#[]⟩)
      have hbz := below_store3' hbA (Nat.le_refl w.heap.size) (.int .i64 0) (.string ⟨#[]⟩) (.string ⟨#[]⟩)
      obtain ⟨W3, hW3⟩ : ∃ W3, W3 = ((wA.setCell ⟨w.heap.size, 0, none⟩ (.int .i64 0)).setCell ⟨w.heap.size, 1, none⟩ (.string ⟨#[]⟩)).setCell ⟨w.heap.size, 2, none⟩ (.string ⟨#[]⟩) := ⟨_, rfl⟩
      rw [← hW3] at q0 q1 q2 hbz ⊢
      exact bodyPost_ret (v := .tuple #[.agg #[(.int .i64 0), (.string ⟨#[]⟩), (.string ⟨#[]⟩)], .int .i64 4]) (by simp [results, Tryd.results31, go_sem, q0, q1, q2]) rfl ⟨by rw [HN.out]; rfl, hbz⟩

set_option maxRecDepth 100000 in
set_option maxHeartbeats 4000000 in
theorem rOne_any (s : ByteArray) (hs : s.size ≤ 1000000000) (w : World) :
    Calls Tryd.prog 17 #[.string s] w fun e w' => e = .returned (oneR (oneF s.data.toList)) ∧ Below w.heap.size w w' := by
  obtain ⟨r, hr⟩ : ∃ r, readF s.data.toList = r := ⟨_, rfl⟩
  obtain ⟨o, ho⟩ : ∃ o, oneF s.data.toList = o := ⟨_, rfl⟩
  rw [ho]
  have HO := hide (show o = oneG r by rw [← ho, oneF_eq, hr])
  have HR := hide hr
  clear hr ho
  go_enter Tryd.func17, Tryd.ntmps17
  go_wp2_with fail
  refine (rRead_any s hs _).mono ?_
  rintro e w1 ⟨rfl, hb1⟩
  rw [HR.out]
  have hb0 : Below w.heap.size w w1 := ((Below.refl _ _).alloc (Nat.le_refl _) _).trans (hb1.mono (by simp))
  have hr1 : ResE w.heap.size w1 := (resE_new w).below hb1
  have hgl : w.heap.size < w1.heap.size := hr1.lt
  have HR1 := hide hr1
  have HB1 := hide hb0
  clear hr1 hb0 hb1
  cases r with
  | error k =>
    have hk : k ≠ 0 := fun h => read_err0 _ (h ▸ HR.out)
    have ht : (k != 0) = true := by simpa using hk
    have HN := hide (show o = .error k from HO.out)
    have hrA := HR1.out.below ((Below.refl w1.heap.size w1).alloc (Nat.le_refl _) (.cells #[.int .i64 0, .string ⟨#[]⟩, .string ⟨#[]⟩] 38))
    have hbA := HB1.out.alloc HB1.out.size (.cells #[.int .i64 0, .string ⟨#[]⟩, .string ⟨#[]⟩] 38)
    rw [show readR (.error k) = .tuple #[.agg #[.int .i64 0, .string ⟨#[]⟩, .string ⟨#[]⟩], .string ⟨#[]⟩, .int .i64 k] from rfl]
    clear hk
    go_upto_region 2 with fail
    obtain ⟨wA, hwA⟩ : ∃ W, W = w1.alloc (.cells #[.int .i64 0, .string ⟨#[]⟩, .string ⟨#[]⟩] 38) := ⟨_, rfl⟩
    rw [← hwA] at hrA hbA ⊢
    clear hwA
    obtain ⟨r0, r1, r2, f0, f1, f2⟩ := hrA.facts
    go_wp2_with fail
    obtain ⟨q0, q1, q2⟩ := hrA.store (.int .i64 0) (.string ⟨#[]⟩) (.string ⟨#[]⟩)
    have hbz := below_store3' hbA (Nat.le_refl w.heap.size) (.int .i64 0) (.string ⟨#[]⟩) (.string ⟨#[]⟩)
    obtain ⟨W3, hW3⟩ : ∃ W3, W3 = ((wA.setCell ⟨w.heap.size, 0, none⟩ (.int .i64 0)).setCell ⟨w.heap.size, 1, none⟩ (.string ⟨#[]⟩)).setCell ⟨w.heap.size, 2, none⟩ (.string ⟨#[]⟩) := ⟨_, rfl⟩
    rw [← hW3] at q0 q1 q2 hbz ⊢
    exact bodyPost_ret (v := .tuple #[.agg #[(.int .i64 0), (.string ⟨#[]⟩), (.string ⟨#[]⟩)], .int .i64 k]) (by simp [results, Tryd.results17, go_sem, q0, q1, q2]) rfl ⟨by rw [HN.out]; rfl, hbz⟩
  | ok p =>
    obtain ⟨⟨t, c, raw⟩, q⟩ := p
    obtain ⟨x1, hx1⟩ : ∃ x : ByteArray, x = ⟨c.toArray⟩ := ⟨_, rfl⟩
    obtain ⟨x2, hx2⟩ : ∃ x : ByteArray, x = ⟨raw.toArray⟩ := ⟨_, rfl⟩
    obtain ⟨x3, hx3⟩ : ∃ x : ByteArray, x = ⟨q.toArray⟩ := ⟨_, rfl⟩
    have HV := hide (show eltV (t, c, raw) = .agg #[.int .i64 (t : Int), .string x1, .string x2] by rw [eltV, hx1, hx2])
    rw [show readR (.ok ((t, c, raw), q)) = .tuple #[.agg #[.int .i64 (t : Int), .string x1, .string x2], .string x3, .int .i64 0] by rw [readR, HV.out, hx3]]
    have hrA := HR1.out.below ((Below.refl w1.heap.size w1).alloc (Nat.le_refl _) (.cells #[.int .i64 (t : Int), .string x1, .string x2] 38))
    have hbA := HB1.out.alloc HB1.out.size (.cells #[.int .i64 (t : Int), .string x1, .string x2] 38)
    have hq := str_nil hx3
    have hxs := size_string x3
    clear hx1 hx2 hx3
    go_upto_region 2 with fail
    obtain ⟨wA, hwA⟩ : ∃ W, W = w1.alloc (.cells #[.int .i64 (t : Int), .string x1, .string x2] 38) := ⟨_, rfl⟩
    have n0 : wA.cell? ⟨w1.heap.size, 0, none⟩ = some (.int .i64 (t : Int)) := by rw [hwA, World.cell?_alloc_new]; rfl
    have n1 : wA.cell? ⟨w1.heap.size, 1, none⟩ = some (.string x1) := by rw [hwA, World.cell?_alloc_new]; rfl
    have n2 : wA.cell? ⟨w1.heap.size, 2, none⟩ = some (.string x2) := by rw [hwA, World.cell?_alloc_new]; rfl
    rw [← hwA] at hrA hbA ⊢
    clear hwA
    obtain ⟨r0, r1, r2, f0, f1, f2⟩ := hrA.facts
    by_cases h0 : x3.size = 0
    · have HN := hide (show o = .ok (t, c, raw) by rw [HO.out, oneG, if_pos (hq.2 h0)])
      have e1 : x3.toList = [] := by rw [ByteArray.toList_eq]; exact List.eq_nil_of_length_eq_zero (by omega)
      have e2 : ¬ (0 : Int) < (x3.size : Int) := by omega
      clear hq h0 hxs
      go_wp2_with fail
      obtain ⟨q0, q1, q2⟩ := hrA.store (.int .i64 (t : Int)) (.string x1) (.string x2)
      have hbz := below_store3' hbA (Nat.le_refl w.heap.size) (.int .i64 (t : Int)) (.string x1) (.string x2)
      obtain ⟨W3, hW3⟩ : ∃ W3, W3 = ((wA.setCell ⟨w.heap.size, 0, none⟩ (.int .i64 (t : Int))).setCell ⟨w.heap.size, 1, none⟩ (.string x1)).setCell ⟨w.heap.size, 2, none⟩ (.string x2) := ⟨_, rfl⟩
      rw [← hW3] at q0 q1 q2 hbz ⊢
      exact bodyPost_ret (v := .tuple #[.agg #[(.int .i64 (t : Int)), (.string x1), (.string x2)], .int .i64 0]) (by simp [results, Tryd.results17, go_sem, q0, q1, q2]) rfl ⟨by rw [HN.out, oneR, HV.out], hbz⟩
    · have HN := hide (show o = .error 4 by rw [HO.out, oneG, if_neg (fun h => h0 (hq.1 h))])
      have e0 : ¬ x3.toList = [] := by rw [ByteArray.toList_eq]; intro e; rw [e] at hxs; simp at hxs; omega
      have e1 : (x3.toList == []) = false := by simpa using e0
      have e3 : x3.toList.isEmpty = false := by simpa using e0
      have e2 : (0 : Int) < (x3.size : Int) := by omega
      clear hq h0 hxs e0
      go_wp2_with fail
      obtain ⟨q0, q1, q2⟩ := hrA.store (.int .i64 0) (.string ⟨#[]⟩) (.string ⟨#[]⟩)
      have hbz := below_store3' hbA (Nat.le_refl w.heap.size) (.int .i64 0) (.string ⟨#[]⟩) (.string ⟨#[]⟩)
      obtain ⟨W3, hW3⟩ : ∃ W3, W3 = ((wA.setCell ⟨w.heap.size, 0, none⟩ (.int .i64 0)).setCell ⟨w.heap.size, 1, none⟩ (.string ⟨#[]⟩)).setCell ⟨w.heap.size, 2, none⟩ (.string ⟨#[]⟩) := ⟨_, rfl⟩
      rw [← hW3] at q0 q1 q2 hbz ⊢
      exact bodyPost_ret (v := .tuple #[.agg #[(.int .i64 0), (.string ⟨#[]⟩), (.string ⟨#[]⟩)], .int .i64 4]) (by simp [results, Tryd.results17, go_sem, q0, q1, q2]) rfl ⟨by rw [HN.out]; rfl, hbz⟩
end Go.Proofs.YtbafpgdmnkkclaaDoor
