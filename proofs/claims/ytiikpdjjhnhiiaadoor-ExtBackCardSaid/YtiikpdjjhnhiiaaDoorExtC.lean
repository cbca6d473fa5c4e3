/- Find, both sides. -/
import Derived.Test.YtiikpdjjhnhiiaaDoorExt1
namespace Go.Proofs.YtiikpdjjhnhiiaaDoor
open Go.RowKit Go.WideMaps Go.Maps

/-- a block of an extension, new -/
def ResX (g : Nat) (W : World) : Prop := W.heap[g]? = some (.cells #[.string ⟨#[]⟩, .bool false, .string ⟨#[]⟩] 49 (0, 0))
theorem ResX.facts {g : Nat} {W : World} (h : ResX g W) : W.cell? ⟨g, 0, none⟩ = some (.string ⟨#[]⟩) ∧ W.cell? ⟨g, 1, none⟩ = some (.bool false) ∧ W.cell? ⟨g, 2, none⟩ = some (.string ⟨#[]⟩) ∧
    W.frozen? ⟨g, 0, none⟩ = false ∧ W.frozen? ⟨g, 1, none⟩ = false ∧ W.frozen? ⟨g, 2, none⟩ = false := by
  unfold ResX at h
  simp [World.cell?, World.frozen?, h]
theorem ResX.lt {g : Nat} {W : World} (h : ResX g W) : g < W.heap.size := (Array.getElem?_eq_some_iff.1 h).1
theorem ResX.below {g : Nat} {W W' : World} (h : ResX g W) (hb : Below W.heap.size W W') : ResX g W' := (hb.block g h.lt).trans h
theorem ResX.keep {g B : Nat} {W W' : World} (h : ResX g W) (hg : g < B) (hb : Below B W W') : ResX g W' := (hb.block g hg).trans h
theorem resX_new (w : World) : ResX w.heap.size (w.alloc (.cells #[.string ⟨#[]⟩, .bool false, .string ⟨#[]⟩] 49)) := heap_alloc_new w _
theorem ResX.store {g : Nat} {W : World} (h : ResX g W) (a b c : Value) :
    (((W.setCell ⟨g, 0, none⟩ a).setCell ⟨g, 1, none⟩ b).setCell ⟨g, 2, none⟩ c).cell? ⟨g, 0, none⟩ = some a ∧ (((W.setCell ⟨g, 0, none⟩ a).setCell ⟨g, 1, none⟩ b).setCell ⟨g, 2, none⟩ c).cell? ⟨g, 1, none⟩ = some b ∧
    (((W.setCell ⟨g, 0, none⟩ a).setCell ⟨g, 1, none⟩ b).setCell ⟨g, 2, none⟩ c).cell? ⟨g, 2, none⟩ = some c := by
  unfold ResX at h
  simp [World.cell?, World.setCell, Array.getElem?_modify, h]
def findF (l : List Ext) (id : List UInt8) : Option Ext := l.find? (fun x => x.1 == id)
def findR : Option Ext → Value
  | none => .tuple #[noExt, .bool false]
  | some x => .tuple #[extV x, .bool true]
theorem findF_at {l : List Ext} {id : List UInt8} {k : Nat} (h : k < l.length) : findF (l.drop k) id = if l[k].1 = id then some l[k] else findF (l.drop (k + 1)) id := by
  rw [findF, List.drop_eq_getElem_cons h, List.find?_cons]
  by_cases e : l[k].1 = id
  · simp [e]
  · rw [if_neg e, show (l[k].1 == id) = false by simpa using e]; rfl
theorem findF_idx : ∀ {l : List Ext} {id : List UInt8} (_h : id ∈ l.map (·.1)), ∃ hj : (l.map (·.1)).idxOf id < l.length, findF l id = some (l[(l.map (·.1)).idxOf id]'hj)
  | [], id, h => by cases h
  | x :: r, id, h => by
    by_cases e : x.1 = id
    · subst e
      refine ⟨by simp, ?_⟩
      simp [findF]
    · have h' : id ∈ r.map (·.1) := by
        rcases List.mem_cons.1 h with h | h
        · exact absurd h.symm e
        · exact h
      obtain ⟨hj, hf⟩ := findF_idx h'
      have hb : (x.1 == id) = false := by simpa using e
      have hi : ((x :: r).map (·.1)).idxOf id = (r.map (·.1)).idxOf id + 1 := by rw [List.map_cons, List.idxOf_cons, hb]; rfl
      refine ⟨by rw [hi]; simp; omega, ?_⟩
      simp only [hi, List.getElem_cons_succ]
      rw [← hf, findF, List.find?_cons, hb]; rfl
theorem findF_none {l : List Ext} {id : List UInt8} (h : id ∉ l.map (·.1)) : findF l id = none := by
  rw [findF, List.find?_eq_none]
  intro x hx he
  exact h (List.mem_map.2 ⟨x, hx, by simpa using he⟩)

set_option maxRecDepth 100000 in
set_option maxHeartbeats 8000000 in
theorem rFind_any (l : List Ext) (id : ByteArray) (A : Option Addr) (c : Nat) (w : World) (h : Sl RExt 3 w (Lt w.heap.size) l [.slice A l.length c]) :
    Calls Tryd.prog 37 #[.slice A l.length c, .string id] w fun e w' => e = .returned (findR (findF l id.data.toList)) ∧ Below w.heap.size w w' := by
  obtain ⟨-, hnc, hcm⟩ := h.len_
  unfold maxLen at hcm
  obtain ⟨r, hr⟩ : ∃ r, findF l id.data.toList = r := ⟨_, rfl⟩
  rw [hr]
  have K := hide h
  have H0 := hide (show r = findF (l.drop 0) id.data.toList from hr.symm)
  clear h hr
  obtain ⟨w0, hw0⟩ : ∃ W, W = w.alloc (.cells #[.string ⟨#[]⟩, .bool false, .string ⟨#[]⟩] 49) := ⟨_, rfl⟩
  have HR0 := hide (show ResX w.heap.size w0 by rw [hw0]; exact resX_new w)
  have HB0 := hide (show Below w.heap.size w w0 by rw [hw0]; exact (Below.refl _ _).alloc (Nat.le_refl _) _)
  go_enter Tryd.func37, Tryd.ntmps37
  go_wp2_with fail
  rw [← hw0]
  clear hw0
  go_loopw [10] (fun i wr => ∃ k : Nat, k ≤ l.length ∧ i = .int .i64 k ∧ Below w0.heap.size w0 wr ∧ Hid (r = findF (l.drop k) id.data.toList)) (fun i _ => l.length - (intOf i).toNat)
  case atStart => exact ⟨0, by omega, rfl, Below.refl _ _, H0⟩
  case round =>
    obtain ⟨k, hk, rfl, hb, H⟩ := hrel
    have HB := hide hb
    have HBW := hide (HB0.out.trans (hb.mono HB0.out.size))
    have HRr := hide (HR0.out.below hb)
    have hzr := HBW.out.size
    have hgz := HRr.out.lt
    clear hb
    by_cases hlt : k < l.length
    · obtain ⟨b, off, hA, hbS, e0, e1, e2⟩ := K.out.extAt hlt
      subst hA
      have hX := H.out.trans (findF_at hlt)
      obtain ⟨⟨xi, cr, va⟩, hel⟩ : ∃ e, l[k] = e := ⟨_, rfl⟩
      rw [hel] at e0 e1 e2 hX
      simp only at e0 e1 e2 hX
      obtain ⟨x1, hx1⟩ : ∃ x : ByteArray, x = ⟨xi.toArray⟩ := ⟨_, rfl⟩
      obtain ⟨x2, hx2⟩ : ∃ x : ByteArray, x = ⟨va.toArray⟩ := ⟨_, rfl⟩
      have hid : xi = x1.data.toList := by rw [hx1]
      have HV := hide (show extV (xi, cr, va) = .agg #[.string x1, .bool cr, .string x2] by rw [extV, hx1, hx2])
      rw [← hx1] at e0
      rw [← hx2] at e2
      have hbS' : b < w.heap.size := hbS
      have p0 := (HBW.out.cell (p := ⟨b, off + k * 3, none⟩) hbS').trans e0
      have p1 := (HBW.out.cell (p := ⟨b, off + k * 3 + 1, none⟩) hbS').trans e1
      have p2 := (HBW.out.cell (p := ⟨b, off + k * 3 + 2, none⟩) hbS').trans e2
      have HX := hide hX
      have HID := hide hid
      clear e0 e1 e2 hx1 hx2 hel hid hX
      obtain ⟨wo, rfl⟩ : ∃ wo : World, wo = wr := ⟨_, rfl⟩
      go_upto_region 4 with fail
      obtain ⟨wB, hwB⟩ : ∃ W, W = wo.alloc (.cells #[.string x1, .bool cr, .string x2] 49) := ⟨_, rfl⟩
      have q0 : wB.cell? ⟨wo.heap.size, 0, none⟩ = some (.string x1) := by rw [hwB, World.cell?_alloc_new]; rfl
      have q1 : wB.cell? ⟨wo.heap.size, 1, none⟩ = some (.bool cr) := by rw [hwB, World.cell?_alloc_new]; rfl
      have q2 : wB.cell? ⟨wo.heap.size, 2, none⟩ = some (.string x2) := by rw [hwB, World.cell?_alloc_new]; rfl
      have hbB : Below wo.heap.size wo wB := by rw [hwB]; exact (Below.refl _ _).alloc (Nat.le_refl _) _
      have HBB := hide (HB.out.trans (hbB.mono HB.out.size))
      have HBWB := hide (HBW.out.trans (hbB.mono HBW.out.size))
      have HRB := hide (HRr.out.below hbB)
      rw [← hwB]
      clear hwB p0 p1 p2 hbB
      by_cases heq : x1.toList = id.toList
      · have ht : (x1.toList == id.toList) = true := by simpa using heq
        have HY := hide (HX.out.trans (if_pos (by rw [HID.out, ← ByteArray.toList_eq, ← ByteArray.toList_eq]; exact heq)))
        obtain ⟨r0, r1, r2, f0, f1, f2⟩ := HRB.out.facts
        clear heq
        go_wp2_with fail
        obtain ⟨q0, q1, q2⟩ := HRB.out.store (.string x1) (.bool cr) (.string x2)
        have hbz := below_store3' HBWB.out (Nat.le_refl w.heap.size) (.string x1) (.bool cr) (.string x2)
        obtain ⟨W3, hW3⟩ : ∃ W3, W3 = ((wB.setCell ⟨w.heap.size, 0, none⟩ (.string x1)).setCell ⟨w.heap.size, 1, none⟩ (.bool cr)).setCell ⟨w.heap.size, 2, none⟩ (.string x2) := ⟨_, rfl⟩
        rw [← hW3] at q0 q1 q2 hbz ⊢
        exact bodyPost_ret (v := .tuple #[.agg #[(.string x1), (.bool cr), (.string x2)], .bool true]) (by simp [results, Tryd.results37, go_sem, q0, q1, q2]) rfl ⟨by rw [HY.out, findR, HV.out], hbz⟩
      · have ht : (x1.toList == id.toList) = false := by simpa using heq
        have HY := hide (HX.out.trans (if_neg (by rw [HID.out, ← ByteArray.toList_eq, ← ByteArray.toList_eq]; exact heq)))
        clear heq
        go_wp2_with fail
        go_roundw
        case rel => exact ⟨k + 1, by omega, by go_num, HBB.out, HY⟩
        case measure => simp [intOf]; omega
    · have HY := hide (show r = none by rw [H.out, List.drop_of_length_le (by omega)]; rfl)
      obtain ⟨r0, r1, r2, f0, f1, f2⟩ := HRr.out.facts
      go_wp2_with fail
      obtain ⟨q0, q1, q2⟩ := HRr.out.store (.string ⟨#[]⟩) (.bool false) (.string ⟨#[]⟩)
      have hbz := below_store3' HBW.out (Nat.le_refl w.heap.size) (.string ⟨#[]⟩) (.bool false) (.string ⟨#[]⟩)
      obtain ⟨W3, hW3⟩ : ∃ W3, W3 = ((wr.setCell ⟨w.heap.size, 0, none⟩ (.string ⟨#[]⟩)).setCell ⟨w.heap.size, 1, none⟩ (.bool false)).setCell ⟨w.heap.size, 2, none⟩ (.string ⟨#[]⟩) := ⟨_, rfl⟩
      rw [← hW3] at q0 q1 q2 hbz ⊢
      exact bodyPost_ret (v := .tuple #[.agg #[(.string ⟨#[]⟩), (.bool false), (.string ⟨#[]⟩)], .bool false]) (by simp [results, Tryd.results37, go_sem, q0, q1, q2]) rfl ⟨by rw [HY.out]; rfl, hbz⟩

theorem keyOf_string_inv {k : TypeId} (hk : Tryd.prog.underlying k = some .string) {key : Value} {kl : Lit} (h : keyOf Tryd.prog k key = some kl) : ∃ x : ByteArray, key = .string x ∧ kl = .string x.data.toList := by
  cases key <;> simp [keyOf, hk, mapKey] at h
  obtain ⟨_, rfl⟩ := h
  exact ⟨_, rfl, rfl⟩

set_option maxRecDepth 100000 in
set_option maxHeartbeats 8000000 in
theorem Find_any (l : List Ext) (id : ByteArray) (A : Option Addr) (c : Nat) (w : World) (h : Sl RExt 3 w (Lt w.heap.size) l [.slice A l.length c]) (hsm : SmallX l) (hN : l.length ≤ 1000000) :
    Calls Tryd.prog 36 #[.slice A l.length c, .string id] w fun e w' => e = .returned (findR (findF l id.data.toList)) ∧ Below w.heap.size w w' := by
  obtain ⟨-, hnc, hcm⟩ := h.len_
  unfold maxLen at hcm
  obtain ⟨r, hr⟩ : ∃ r, findF l id.data.toList = r := ⟨_, rfl⟩
  rw [hr]
  have K := hide h
  have HR := hide hr
  clear h hr
  obtain ⟨w0, hw0⟩ : ∃ W, W = w.alloc (.cells #[.string ⟨#[]⟩, .bool false, .string ⟨#[]⟩] 49) := ⟨_, rfl⟩
  have HR0 := hide (show ResX w.heap.size w0 by rw [hw0]; exact resX_new w)
  have hb0 : Below w.heap.size w w0 := by rw [hw0]; exact (Below.refl _ _).alloc (Nat.le_refl _) _
  have HB0 := hide hb0
  have HSL0 := hide ((Sl.ok RExt.ok).mono K.out (fun j hj => hb0.block j hj) (S' := Lt w0.heap.size) (fun j hj => Nat.lt_of_lt_of_le hj hb0.size))
  clear hb0
  go_enter Tryd.func36, Tryd.ntmps36
  go_upto_region 1 with fail
  rw [← hw0]
  clear hw0
  go_wp2_with fail
  refine (index_any l A c w0 HSL0.out hsm hN).mono ?_
  rintro e w1 ⟨rfl, ⟨D, hown, hD⟩, hb1⟩
  have HB1 := hide (HB0.out.trans (hb1.mono HB0.out.size))
  have HR1 := hide (HR0.out.below hb1)
  have HD := hide hD
  have hz0 := HB0.out.size
  have hz1 := hb1.size
  have hBlt := hown.lt
  obtain ⟨gB, hgB⟩ : ∃ g, g = w0.heap.size := ⟨_, rfl⟩
  rw [← hgB] at hown hBlt ⊢
  have hgB2 : w.heap.size ≤ gB := by omega
  clear hb1 hgB hD
  go_wp2_with (first
    | (at_range; refine wpList_range_own _ rfl _ 99 rfl 9 3 lawS Tryd.underlying99 _ gB l.length D rfl hown ?_; intro w2 hrg0 hg0 hs0)
    | fail)
  go_frame
  obtain ⟨gr, hgr⟩ : ∃ g, g = w1.heap.size := ⟨_, rfl⟩
  rw [← hgr] at hrg0 hs0 ⊢
  have hb2 : Below w1.heap.size w1 w2 := ⟨hg0.os, hg0.tape, hg0.output, hg0.size, fun k hk => hg0.block k hk (by simp)⟩
  have HB2 := hide (HB1.out.trans (hb2.mono (by omega)))
  have HR2 := hide (HR1.out.below hb2)
  have hgr2 : w1.heap.size ≤ gr := by omega
  have hgne : gr ≠ w.heap.size := by have := HR1.out.lt; omega
  clear hb2 hg0 hown hgr
  go_loopw [6] (fun _ wr => ∃ (left : Lit → Bool) (cnt : Nat), wr.ranges Tryd.prog 9 (plainElem Tryd.prog 3) gB gr l.length D left cnt ∧ Maps.has D (.string id.data.toList) = left (.string id.data.toList) ∧ Below w.heap.size w wr ∧ ResX w.heap.size wr) (fun _ wr => wr.rangeLeft gB gr)
  case atStart => exact ⟨_, _, hrg0, rfl, HB2.out, HR2.out⟩
  case round =>
    obtain ⟨left, cnt, hrg, hleft, hbr, hrr⟩ := hrel
    have HLEFT := hide hleft
    have HBR := hide hbr
    have HRR := hide hrr
    clear hleft hbr hrr
    go_wp2_with (first
      | (at_next; refine wpList_next_ranges _ rfl _ rfl 9 lawS (plainElem Tryd.prog 3) Value.string (Value.int .i64) (fun key kl hkey => by obtain ⟨x, rfl, _⟩ := keyOf_string_inv Tryd.underlying9 hkey; exact ⟨x, rfl⟩) (fun v y hv => by obtain ⟨c, rfl, _⟩ := plainElem_int_inv Tryd.underlying3 hv; exact ⟨c, rfl⟩) gB gr l.length D left cnt rfl hrg ?_ ?_)
      | fail)
    · intro _ hl0
      have hno : id.data.toList ∉ l.map (·.1) := fun hm => by
        have := HD.out.2.1 id.data.toList
        rw [HLEFT.out, hl0] at this
        simp [hm] at this
      have HY := hide (show r = none by rw [← HR.out]; exact findF_none hno)
      obtain ⟨r0, r1, r2, f0, f1, f2⟩ := HRR.out.facts
      clear hl0 hno hrg
      go_wp2_with fail
      obtain ⟨q0, q1, q2⟩ := HRR.out.store (.string ⟨#[]⟩) (.bool false) (.string ⟨#[]⟩)
      have hbz := below_store3' HBR.out (Nat.le_refl w.heap.size) (.string ⟨#[]⟩) (.bool false) (.string ⟨#[]⟩)
      obtain ⟨W3, hW3⟩ : ∃ W3, W3 = ((wr.setCell ⟨w.heap.size, 0, none⟩ (.string ⟨#[]⟩)).setCell ⟨w.heap.size, 1, none⟩ (.bool false)).setCell ⟨w.heap.size, 2, none⟩ (.string ⟨#[]⟩) := ⟨_, rfl⟩
      rw [← hW3] at q0 q1 q2 hbz ⊢
      exact bodyPost_ret (v := .tuple #[.agg #[(.string ⟨#[]⟩), (.bool false), (.string ⟨#[]⟩)], .bool false]) (by simp [results, Tryd.results36, go_sem, q0, q1, q2]) rfl ⟨by rw [HY.out]; rfl, hbz⟩
    · intro x cc kl y yps w3 cnt3 hkey hlk hv hat hrg3 hlt3 hg3 hs3 hen
      obtain ⟨x', ex, hkl⟩ := keyOf_string_inv Tryd.underlying9 hkey
      cases ex
      subst hkl
      have hb3 : Below w.heap.size w w3 := HBR.out.grown hg3 HBR.out.size (fun j hj => by cases hj; have := HB1.out.size; omega)
      have hr3 : ResX w.heap.size w3 := (hg3.block _ HRR.out.lt (fun e => hgne (Option.some.inj e).symm)).trans HRR.out
      have HB3 := hide hb3
      have HR3 := hide hr3
      have HS3 := hide hs3
      have HLT := hide hlt3
      have HRG := hide hrg
      have HRG3 := hide hrg3
      clear hb3 hr3 hs3 hlt3 hg3
      by_cases heq : x.toList = id.toList
      · have ht : (x.toList == id.toList) = true := by simpa using heq
        have heq' : x.data.toList = id.data.toList := by rw [← ByteArray.toList_eq, ← ByteArray.toList_eq]; exact heq
        have hmem : id.data.toList ∈ l.map (·.1) := by
          have h1 := HD.out.2.1 id.data.toList
          rw [HLEFT.out, ← heq', hlk, heq'] at h1
          exact of_decide_eq_true h1.symm
        obtain ⟨hj, hf⟩ := findF_idx hmem
        have hcc : y = .lit (.int .i64 ((l.map (·.1)).idxOf id.data.toList : Int)) := by
          rw [← hat (.lit (.int .i64 0)), heq']
          exact HD.out.2.2 _ hmem _
        obtain ⟨c', ec, ey, _⟩ := plainElem_int_inv Tryd.underlying3 hv
        cases ec
        cases ey
        obtain ⟨j, hjj⟩ : ∃ j, (l.map (·.1)).idxOf id.data.toList = j := ⟨_, rfl⟩
        simp only [hjj] at hf hj hcc
        obtain rfl : cc = (j : Int) := by simpa using hcc
        obtain ⟨b, off, hA, hbS, e0, e1, e2⟩ := K.out.extAt hj
        subst hA
        obtain ⟨⟨xi, cr, va⟩, hel⟩ : ∃ e, l[j] = e := ⟨_, rfl⟩
        rw [hel] at e0 e1 e2 hf
        simp only at e0 e1 e2
        obtain ⟨x1, hx1⟩ : ∃ x : ByteArray, x = ⟨xi.toArray⟩ := ⟨_, rfl⟩
        obtain ⟨x2, hx2⟩ : ∃ x : ByteArray, x = ⟨va.toArray⟩ := ⟨_, rfl⟩
        have HV := hide (show extV (xi, cr, va) = .agg #[.string x1, .bool cr, .string x2] by rw [extV, hx1, hx2])
        rw [← hx1] at e0
        rw [← hx2] at e2
        have hbS' : b < w.heap.size := hbS
        have p0 := (HB3.out.cell (p := ⟨b, off + j * 3, none⟩) hbS').trans e0
        have p1 := (HB3.out.cell (p := ⟨b, off + j * 3 + 1, none⟩) hbS').trans e1
        have p2 := (HB3.out.cell (p := ⟨b, off + j * 3 + 2, none⟩) hbS').trans e2
        have HY := hide (HR.out.symm.trans hf)
        obtain ⟨r0, r1, r2, f0, f1, f2⟩ := HR3.out.facts
        have hji : (j : Int) < (l.length : Int) := by omega
        have hj0 : (0 : Int) ≤ (j : Int) := by omega
        clear e0 e1 e2 hx1 hx2 hel heq heq' hmem hcc hjj hat hkey hlk hv hrg hrg3 hf
        go_wp2_with fail
        obtain ⟨q0, q1, q2⟩ := HR3.out.store (.string x1) (.bool cr) (.string x2)
        have hbz := below_store3' HB3.out (Nat.le_refl w.heap.size) (.string x1) (.bool cr) (.string x2)
        obtain ⟨W3, hW3⟩ : ∃ W3, W3 = ((w3.setCell ⟨w.heap.size, 0, none⟩ (.string x1)).setCell ⟨w.heap.size, 1, none⟩ (.bool cr)).setCell ⟨w.heap.size, 2, none⟩ (.string x2) := ⟨_, rfl⟩
        rw [← hW3] at q0 q1 q2 hbz ⊢
        exact bodyPost_ret (v := .tuple #[.agg #[(.string x1), (.bool cr), (.string x2)], .bool true]) (by simp [results, Tryd.results36, go_sem, q0, q1, q2]) rfl ⟨by rw [HY.out, findR, HV.out], hbz⟩
      · have ht : (x.toList == id.toList) = false := by simpa using heq
        have hne : x.data.toList ≠ id.data.toList := by rw [← ByteArray.toList_eq, ← ByteArray.toList_eq]; exact heq
        have HNE := hide hne
        clear heq hne hat hkey hlk hv hrg hrg3
        go_wp2_with fail
        go_roundw
        case rel => exact ⟨_, cnt3, HRG3.out, by rw [HLEFT.out, Maps.sameKey_ne (fun h => HNE.out (Lit.string.inj h).symm)]; simp, HB3.out, HR3.out⟩
        case measure => rw [HRG3.out.left_eq, HRG.out.left_eq]; exact HLT.out
end Go.Proofs.YtiikpdjjhnhiiaaDoor
