/- Extensions in memory; the index of their identifiers. -/
import Derived.Test.YtiikpdjjhnhiiaaDoorExtP
import Derived.Test.YtiikpdjjhnhiiaaDoorTlvI
import Derived.Maps.OwnSet
import Derived.Maps.OwnOps
import Derived.Maps.RangeWalk
import Derived.Test.YtiikpdjjhnhiiaaDoorOidO
namespace Go.Proofs.YtiikpdjjhnhiiaaDoor
open Go.RowKit Go.WideMaps Go.Maps

def extC (x : Ext) : List Value := [.string ⟨x.1.toArray⟩, .bool x.2.1, .string ⟨x.2.2.toArray⟩]
abbrev RExt : Rep Ext := Pu extC
theorem RExt.ok : RepOk RExt 3 := Pu.ok (fun _ => rfl) (fun x u hu => by simp [extC] at hu; rcases hu with rfl | rfl | rfl <;> rfl)
def extV (x : Ext) : Value := .agg #[.string ⟨x.1.toArray⟩, .bool x.2.1, .string ⟨x.2.2.toArray⟩]
def noExt : Value := .agg #[.string ⟨#[]⟩, .bool false, .string ⟨#[]⟩]
theorem info_ext : (Tryd.prog.info? 49).map (fun i => (i.zero, i.size, i.bytes)) = some (some (.agg #[.string ⟨#[]⟩, .bool false, .string ⟨#[]⟩]), 3, 40) := by kernel_rfl
theorem Sl.extAt {w : World} {S : Nat → Prop} {A : Option Addr} {n c : Nat} {l : List Ext} (h : Sl RExt 3 w S l [.slice A n c]) {i : Nat} (hi : i < l.length) :
    ∃ b off, A = some ⟨b, off, none⟩ ∧ S b ∧ w.cell? ⟨b, off + i * 3, none⟩ = some (.string ⟨l[i].1.toArray⟩) ∧ w.cell? ⟨b, off + i * 3 + 1, none⟩ = some (.bool l[i].2.1) ∧ w.cell? ⟨b, off + i * 3 + 2, none⟩ = some (.string ⟨l[i].2.2.toArray⟩) := by
  obtain ⟨b, off, xs, hA, hb, hr, hc⟩ := h.at_ hi
  have e : xs = extC l[i] := hr
  subst e
  exact ⟨b, off, hA, hb, by simpa using hc 0 _ rfl, by simpa [Nat.add_assoc] using hc 1 _ rfl, by simpa [Nat.add_assoc] using hc 2 _ rfl⟩
/-- identifiers and values of bounded length -/
def SmallX (l : List Ext) : Prop := ∀ x ∈ l, x.1.length ≤ 1000000 ∧ x.2.2.length ≤ 1000000
theorem lawS : Keyed Tryd.prog 9 := string_keyed Tryd.underlying9
theorem zeroI (w : World) : (zeroValue 3).run Tryd.prog w = .ok (.int .i64 0) w := by kernel_rfl

def Idx (D : DataW Unit) (ids : List (List UInt8)) : Prop :=
  Maps.IsMap D ∧ (∀ s, Maps.has D (.string s) = decide (s ∈ ids)) ∧ ∀ s, s ∈ ids → ∀ z, D.atKey (.string s) z = .lit (.int .i64 (ids.idxOf s : Int))
theorem Idx.nil : Idx (.map []) [] := ⟨⟨[], rfl⟩, fun s => rfl, fun s h => by cases h⟩
theorem Idx.old {D : DataW Unit} {ids : List (List UInt8)} {s : List UInt8} (h : Idx D ids) (hs : s ∈ ids) : Idx D (ids ++ [s]) := by
  obtain ⟨h1, h2, h3⟩ := h
  refine ⟨h1, fun t => ?_, fun t ht z => ?_⟩
  · rw [h2 t, decide_eq_decide, List.mem_append]
    constructor
    · exact .inl
    · rintro (h | h)
      · exact h
      · simp at h; subst h; exact hs
  · have ht' : t ∈ ids := by
      rcases List.mem_append.1 ht with h | h
      · exact h
      · simp at h; subst h; exact hs
    rw [h3 t ht' z, List.idxOf_append, if_pos ht']
theorem Idx.new {D : DataW Unit} {ids : List (List UInt8)} {s : List UInt8} (h : Idx D ids) (hs : s ∉ ids) (hk : WideAt.IsKeyLit (.string s)) : Idx (D.put (.string s) (.lit (.int .i64 (ids.length : Int)))) (ids ++ [s]) := by
  obtain ⟨h1, h2, h3⟩ := h
  refine ⟨h1.put _ _, fun t => ?_, fun t ht z => ?_⟩
  · by_cases e : t = s
    · subst e
      rw [Maps.has_put_same h1 hk]
      simp
    · rw [Maps.has_put_other (fun h => e (by cases h; rfl)), h2 t, decide_eq_decide, List.mem_append]
      simp [e]
  · by_cases e : t = s
    · subst e
      rw [Maps.atKey_put_same h1 hk, List.idxOf_append, if_neg hs]
      simp
    · have ht' : t ∈ ids := by
        rcases List.mem_append.1 ht with h | h
        · exact h
        · simp at h; exact absurd h e
      rw [Maps.atKey_put_other (fun h => e (by cases h; rfl)), h3 t ht' z, List.idxOf_append, if_pos ht']
/-- a map in block B that holds the place of each identifier -/
def IdxMap (w : World) (B n : Nat) (ids : List (List UInt8)) : Prop := ∃ D : DataW Unit, w.ownsMap Tryd.prog 9 (plainElem Tryd.prog 3) B n D ∧ Idx D ids

set_option maxRecDepth 100000 in
set_option maxHeartbeats 4000000 in
theorem index_any (l : List Ext) (A : Option Addr) (c : Nat) (w : World) (h : Sl RExt 3 w (Lt w.heap.size) l [.slice A l.length c]) (hsm : SmallX l) (_hN : l.length ≤ 1000000) :
    Calls Tryd.prog 70 #[.slice A l.length c] w fun e w' => e = .returned (.map (some w.heap.size)) ∧ IdxMap w' w.heap.size l.length (l.map (·.1)) ∧ Below w.heap.size w w' := by
  obtain ⟨-, hnc, hcm⟩ := h.len_
  unfold maxLen at hcm
  have K := hide h
  have HSM := hide hsm
  have hmm := @run_makeMap Tryd.prog
  clear h hsm
  go_enter Tryd.func70, Tryd.ntmps70
  go_wp2_with fail
  go_loopw [11] (fun i wr => ∃ k : Nat, k ≤ l.length ∧ i = .int .i64 k ∧ IdxMap wr w.heap.size k ((l.take k).map (·.1)) ∧ Below w.heap.size w wr) (fun i _ => l.length - (intOf i).toNat)
  case atStart => exact ⟨0, Nat.zero_le _, rfl, ⟨_, World.ownsMap_made _ _ _ _, Idx.nil⟩, (Below.refl _ _).alloc (Nat.le_refl _) _⟩
  case round =>
    obtain ⟨k, hk, rfl, hidx, hb⟩ := hrel
    have HB := hide hb
    by_cases hlt : k < l.length
    · obtain ⟨b, off, hA, hbS, e0, e1, e2⟩ := K.out.extAt hlt
      subst hA
      obtain ⟨hs0, hs2⟩ := HSM.out l[k] (List.getElem_mem hlt)
      obtain ⟨⟨id, cr, va⟩, hel⟩ : ∃ e, l[k] = e := ⟨_, rfl⟩
      rw [hel] at e0 e1 e2 hs0 hs2
      simp only at e0 e1 e2 hs0 hs2
      obtain ⟨x1, hx1⟩ : ∃ x : ByteArray, x = ⟨id.toArray⟩ := ⟨_, rfl⟩
      obtain ⟨x2, hx2⟩ : ∃ x : ByteArray, x = ⟨va.toArray⟩ := ⟨_, rfl⟩
      rw [← hx1] at e0
      rw [← hx2] at e2
      have hbS' : b < w.heap.size := hbS
      have p0 := (hb.cell (p := ⟨b, off + k * 3, none⟩) hbS').trans e0
      have p1 := (hb.cell (p := ⟨b, off + k * 3 + 1, none⟩) hbS').trans e1
      have p2 := (hb.cell (p := ⟨b, off + k * 3 + 2, none⟩) hbS').trans e2
      have hid : id = x1.data.toList := by rw [hx1]
      have hx1s : x1.size ≤ maxLen := by rw [hx1, ba_mk]; unfold maxLen; omega
      have hkey := keyOf_string_mk (P := Tryd.prog) Tryd.underlying9 hx1s
      have HKL := hide (lawS.key hkey)
      have HTK := hide (show (l.take (k + 1)).map (·.1) = (l.take k).map (·.1) ++ [x1.data.toList] by rw [List.take_succ_eq_append_getElem hlt, List.map_append, hel, ← hid]; rfl)
      have hlen : ((l.take k).map (·.1)).length = k := by simp; omega
      obtain ⟨D, hown, hD⟩ := hidx
      obtain ⟨ids, hids⟩ : ∃ ids, (l.take k).map (·.1) = ids := ⟨_, rfl⟩
      rw [hids] at hD hlen HTK
      have HLEN := hide hlen
      have hhas := hD.2.1 x1.data.toList
      have HD := hide hD
      clear e0 e1 e2 hx1 hx2 hel hid hs0 hs2 hids hlen hb hD
      have hzs := HB.out.size
      obtain ⟨wo, rfl⟩ : ∃ wo : World, wo = wr := ⟨_, rfl⟩
      go_upto_region 5 with fail
      obtain ⟨wB, hwB⟩ : ∃ W, W = wo.alloc (.cells #[.string x1, .bool cr, .string x2] 49) := ⟨_, rfl⟩
      have q0 : wB.cell? ⟨wo.heap.size, 0, none⟩ = some (.string x1) := by rw [hwB, World.cell?_alloc_new]; rfl
      have hownB : wB.ownsMap Tryd.prog 9 (plainElem Tryd.prog 3) w.heap.size k D := by rw [hwB]; exact hown.alloc _
      have HBB := hide (show Below w.heap.size w wB by rw [hwB]; exact HB.out.alloc (by omega) _)
      rw [← hwB]
      clear hwB p0 p1 p2 hown
      by_cases hmem : x1.data.toList ∈ ids
      · have hh : Maps.has D (.string x1.data.toList) = true := by rw [hhas]; exact decide_eq_true hmem
        have HI := hide (HD.out.old hmem)
        clear hhas hmem
        go_wp2_with (at_lookup; refine wpList_lookup_own_ok_int _ rfl _ _ 99 rfl 9 3 .i64 lawS Tryd.underlying99 Tryd.underlying3 (zeroI _) w.heap.size k D rfl hownB _ _ rfl hkey ?_; intro cc hat hwc; rw [hh]; clear hat hwc)
        go_roundw
        case rel => exact ⟨k + 1, by omega, by go_num, ⟨D, hownB.mono (Nat.le_succ _), by rw [HTK.out]; exact HI.out⟩, HBB.out⟩
        case measure => simp [intOf]; omega
      · have hh : Maps.has D (.string x1.data.toList) = false := by rw [hhas]; exact decide_eq_false hmem
        have HI := hide (HD.out.new hmem HKL.out)
        rw [HLEN.out] at HI
        clear hhas hmem
        go_wp2_with (first
          | (at_lookup; refine wpList_lookup_own_ok_int _ rfl _ _ 99 rfl 9 3 .i64 lawS Tryd.underlying99 Tryd.underlying3 (zeroI _) w.heap.size k D rfl hownB _ _ rfl hkey ?_; intro cc hat hwc; rw [hh]; clear hat hwc)
          | (at_mapUpdate; refine wpList_mapUpdate_own _ rfl _ _ _ 99 rfl 9 3 lawS Tryd.underlying99 _ w.heap.size k D rfl hownB (by unfold maxLen; omega) _ _ _ rfl rfl hkey _ [] (plainElem_int Tryd.underlying3 (WalkArith.wf_i64 (by omega))) ?_; intro w1 hown1 hgrow1)
          | fail)
        go_roundw
        case rel => exact ⟨k + 1, by omega, by go_num, ⟨_, hown1, by rw [HTK.out]; exact HI.out⟩, HBB.out.grown hgrow1 HBB.out.size (fun j hj => by cases hj; exact Nat.le_refl _)⟩
        case measure => simp [intOf]; omega
    · have hkl : k = l.length := by omega
      subst hkl
      rw [List.take_length] at hidx
      go_wp2_with fail
      go_ret
      exact ⟨rfl, hidx, HB.out⟩
end Go.Proofs.YtiikpdjjhnhiiaaDoor

/- ext.Check. -/
namespace Go.Proofs.YtiikpdjjhnhiiaaDoor
open Go.RowKit Go.WideMaps Go.Maps

theorem grown_of_below {w w' : World} (h : Below w.heap.size w w') : w.grownBy w' none := ⟨h.os, h.tape, h.output, h.size, fun k hk _ => h.block k hk⟩
theorem oidv_v (s : ByteArray) (hs : s.size ≤ 1000000) (p : Bool) (hp : validB s.data.toList = p) (w : World) (hmx : Mx w) :
    Calls Tryd.prog 71 #[.string s] w fun e w' => e = .returned (.bool p) ∧ Below w.heap.size w w' := hp ▸ oidValid_any s hs w hmx
theorem tchk_v (s : ByteArray) (hs : s.size ≤ 1000000) (q : Int) (hq : checkF s.data.toList = q) (w : World) :
    Calls Tryd.prog 72 #[.string s] w fun e w' => e = .returned (.int .i64 q) ∧ Below w.heap.size w w' := hq ▸ TCheck_any s (by omega) w
theorem idxOf_lt_iff {ids : List (List UInt8)} {k : Nat} {x : List UInt8} (hk : k < ids.length) (_hx : ids[k] = x) : ids.idxOf x < k ↔ x ∈ ids.take k := by
  constructor
  · intro h
    rw [List.mem_iff_getElem]
    refine ⟨ids.idxOf x, by rw [List.length_take]; omega, ?_⟩
    rw [List.getElem_take]
    exact List.getElem_idxOf (by omega)
  · intro h
    have h2 := List.idxOf_append (l₁ := ids.take k) (l₂ := ids.drop k) (a := x)
    rw [List.take_append_drop, if_pos h] at h2
    rw [h2]
    have := List.idxOf_lt_length_of_mem h
    rw [List.length_take] at this
    omega
theorem chkX_at {l : List Ext} {k : Nat} (h : k < l.length) : chkX ((l.take k).map (·.1)) (l.drop k) =
    if validB l[k].1 = false then 11 else if l[k].1 ∈ (l.take k).map (·.1) then 10 else if checkF l[k].2.2 ≠ 0 then checkF l[k].2.2 else chkX ((l.take (k + 1)).map (·.1)) (l.drop (k + 1)) := by
  rw [List.drop_eq_getElem_cons h, chkX, List.take_succ_eq_append_getElem h, List.map_append]
  rfl

set_option maxRecDepth 100000 in
set_option maxHeartbeats 8000000 in
theorem ECheck_any (l : List Ext) (A : Option Addr) (c : Nat) (w : World) (hmx : Mx w) (h : Sl RExt 3 w (Lt w.heap.size) l [.slice A l.length c]) (hsm : SmallX l) :
    Calls Tryd.prog 33 #[.slice A l.length c] w fun e w' => e = .returned (.int .i64 (chkE l)) ∧ Below w.heap.size w w' := by
  obtain ⟨-, hnc, hcm⟩ := h.len_
  unfold maxLen at hcm
  obtain ⟨r, hr⟩ : ∃ r, chkE l = r := ⟨_, rfl⟩
  rw [hr]
  have K := hide h
  have HMX := hide hmx
  have HSM := hide hsm
  clear h hmx hsm
  by_cases h0 : l.length = 0
  · have HY := hide (show r = 7 by rw [← hr, chkE, if_pos h0])
    have ht : ((l.length : Int) == 0) = true := by rw [h0]; rfl
    clear h0 hr
    go_enter Tryd.func33, Tryd.ntmps33
    go_wp2_with fail
    go_ret
    exact ⟨ret_int HY.out.symm, Below.refl _ _⟩
  · have ht : ((l.length : Int) == 0) = false := beq_false_of_ne (by omega)
    by_cases h24 : 24 < l.length
    · have HY := hide (show r = 2 by rw [← hr, chkE, if_neg h0, if_pos h24])
      clear h0 hr
      go_enter Tryd.func33, Tryd.ntmps33
      go_wp2_with fail
      go_ret
      exact ⟨ret_int HY.out.symm, Below.refl _ _⟩
    · have H0 := hide (show r = chkX ((l.take 0).map (·.1)) (l.drop 0) by rw [← hr, chkE, if_neg h0, if_neg h24]; rfl)
      clear hr
      go_enter Tryd.func33, Tryd.ntmps33
      go_wp2_with fail
      refine (index_any l A c _ K.out HSM.out (by omega)).mono ?_
      rintro e w1 ⟨rfl, hidx, hb1⟩
      obtain ⟨D, hown, hD⟩ := hidx
      have HOWN := hide hown
      have HD := hide hD
      have HB1 := hide hb1
      have hz1 := hb1.size
      obtain ⟨gB, hgB⟩ : ∃ g, g = w.heap.size := ⟨_, rfl⟩
      rw [← hgB] at HOWN ⊢
      clear hown hD hb1 hgB
      go_wp2_with fail
      clear ht
      go_loopw [17] (fun i wr => ∃ k : Nat, k ≤ l.length ∧ i = .int .i64 k ∧ Below w1.heap.size w1 wr ∧ Hid (r = chkX ((l.take k).map (·.1)) (l.drop k))) (fun i _ => l.length - (intOf i).toNat)
      case atStart => exact ⟨0, by omega, rfl, Below.refl _ _, H0⟩
      case round =>
        obtain ⟨k, hk, rfl, hb, H⟩ := hrel
        have HB := hide hb
        have hzr := hb.size
        have HBW := hide (HB1.out.trans (hb.mono HB1.out.size))
        by_cases hlt : k < l.length
        · obtain ⟨b, off, hA, hbS, e0, e1, e2⟩ := K.out.extAt hlt
          subst hA
          obtain ⟨hs0, hs2⟩ := HSM.out l[k] (List.getElem_mem hlt)
          have hX := H.out.trans (chkX_at hlt)
          have hkl : k < (l.map (·.1)).length := by simpa using hlt
          have hxi := idxOf_lt_iff (ids := l.map (·.1)) hkl rfl
          have hat := HD.out.2.2 _ (List.getElem_mem hkl)
          rw [List.map_take, List.map_take] at hX
          simp only [List.getElem_map] at hxi hat
          obtain ⟨⟨id, cr, va⟩, hel⟩ : ∃ e, l[k] = e := ⟨_, rfl⟩
          rw [hel] at e0 e1 e2 hs0 hs2 hX hxi hat
          simp only at e0 e1 e2 hs0 hs2 hX hxi hat
          obtain ⟨x1, hx1⟩ : ∃ x : ByteArray, x = ⟨id.toArray⟩ := ⟨_, rfl⟩
          obtain ⟨x2, hx2⟩ : ∃ x : ByteArray, x = ⟨va.toArray⟩ := ⟨_, rfl⟩
          have hid : id = x1.data.toList := by rw [hx1]
          have hva : va = x2.data.toList := by rw [hx2]
          rw [← hx1] at e0
          rw [← hx2] at e2
          rw [hid] at hs0 hX hxi hat
          rw [hva] at hs2 hX
          rw [size_string] at hs0 hs2
          have hbS' : b < w.heap.size := hbS
          have p0 := (HBW.out.cell (p := ⟨b, off + k * 3, none⟩) hbS').trans e0
          have p1 := (HBW.out.cell (p := ⟨b, off + k * 3 + 1, none⟩) hbS').trans e1
          have p2 := (HBW.out.cell (p := ⟨b, off + k * 3 + 2, none⟩) hbS').trans e2
          have hkey := keyOf_string_mk (P := Tryd.prog) (s := x1) Tryd.underlying9 (by unfold maxLen; omega)
          obtain ⟨p, hp⟩ : ∃ p, validB x1.data.toList = p := ⟨_, rfl⟩
          obtain ⟨q, hq⟩ : ∃ q, checkF x2.data.toList = q := ⟨_, rfl⟩
          rw [hp, hq] at hX
          have HX := hide hX
          have HP := hide hp
          have HQ := hide hq
          obtain ⟨j, hj⟩ : ∃ j, (l.map (·.1)).idxOf x1.data.toList = j := ⟨_, rfl⟩
          rw [hj] at hxi hat
          have HAT := hide (hat (.lit (.int .i64 0)))
          clear e0 e1 e2 hx1 hx2 hel hid hva hX hp hq hj hb hkl hat
          have HMr := hide (HMX.out.below HBW.out)
          obtain ⟨wo, rfl⟩ : ∃ wo : World, wo = wr := ⟨_, rfl⟩
          go_upto_region 9 with fail
          obtain ⟨wB, hwB⟩ : ∃ W, W = wo.alloc (.cells #[.string x1, .bool cr, .string x2] 49) := ⟨_, rfl⟩
          have q0 : wB.cell? ⟨wo.heap.size, 0, none⟩ = some (.string x1) := by rw [hwB, World.cell?_alloc_new]; rfl
          have q2 : wB.cell? ⟨wo.heap.size, 2, none⟩ = some (.string x2) := by rw [hwB, World.cell?_alloc_new]; rfl
          have hbB : Below wo.heap.size wo wB := by rw [hwB]; exact (Below.refl _ _).alloc (Nat.le_refl _) _
          have hzB : wo.heap.size < wB.heap.size := by rw [hwB]; simp
          have HB1B := hide (HB.out.trans (hbB.mono HB.out.size))
          have HMB := hide (HMr.out.below hbB)
          rw [← hwB]
          clear hwB p0 p1 p2 hbB
          obtain ⟨gx, hgx⟩ : ∃ g, wo.heap.size = g := ⟨_, rfl⟩
          rw [hgx] at q0 q2 hzB ⊢
          clear hgx
          go_wp2_with fail
          refine (oidv_v x1 hs0 p HP.out _ HMB.out).mono ?_
          rintro e w5 ⟨rfl, hb5⟩
          have s0 := (hb5.cell (p := ⟨gx, 0, none⟩) hzB).trans q0
          have s2 := (hb5.cell (p := ⟨gx, 2, none⟩) hzB).trans q2
          have hzB5 := Nat.lt_of_lt_of_le hzB hb5.size
          have HB5 := hide (HB1B.out.trans (hb5.mono HB1B.out.size))
          have HBW5 := hide (HB1.out.trans (HB5.out.mono HB1.out.size))
          have hown5 : w5.ownsMap Tryd.prog 9 (plainElem Tryd.prog 3) gB l.length D := HOWN.out.kept (grown_of_below HB5.out) (by simp)
          clear hb5 q0 q2 hzB
          cases p
          · have HY := hide (HX.out.trans (if_pos rfl))
            clear hown5
            go_wp2_with fail
            go_ret
            exact ⟨ret_int HY.out.symm, HBW5.out⟩
          · have HX1 := hide (HX.out.trans (if_neg (by simp)))
            by_cases hjk : j < k
            · have HY := hide (HX1.out.trans (if_pos (hxi.1 hjk)))
              have hjk' : (j : Int) < (k : Int) := by omega
              clear hxi hjk
              go_wp2_with (at_lookup; refine wpList_lookup_own_int _ rfl _ _ 99 rfl 9 3 .i64 lawS Tryd.underlying99 Tryd.underlying3 (zeroI _) gB l.length D rfl hown5 _ _ rfl hkey ?_; intro cc hat hwc; obtain rfl : cc = (j : Int) := (by have := hat.symm.trans HAT.out; simpa using this); clear hat hwc)
              go_ret
              exact ⟨ret_int HY.out.symm, HBW5.out⟩
            · have HX2 := hide (HX1.out.trans (if_neg (fun h => hjk (hxi.2 h))))
              have hjk' : ¬ (j : Int) < (k : Int) := by omega
              clear hxi hjk
              go_wp2_with (at_lookup; refine wpList_lookup_own_int _ rfl _ _ 99 rfl 9 3 .i64 lawS Tryd.underlying99 Tryd.underlying3 (zeroI _) gB l.length D rfl hown5 _ _ rfl hkey ?_; intro cc hat hwc; obtain rfl : cc = (j : Int) := (by have := hat.symm.trans HAT.out; simpa using this); clear hat hwc)
              refine (tchk_v x2 hs2 q HQ.out _).mono ?_
              rintro e w6 ⟨rfl, hb6⟩
              have HB6 := hide (HB5.out.trans (hb6.mono HB5.out.size))
              clear hb6 hown5 s0 s2
              by_cases hq0 : q = 0
              · have HY := hide (HX2.out.trans (if_neg (by simpa using hq0)))
                have ht : (q != 0) = false := by simp [hq0]
                clear hq0
                go_wp2_with fail
                go_roundw
                case rel => exact ⟨k + 1, by omega, by go_num, HB6.out, by rw [List.map_take]; exact HY⟩
                case measure => simp [intOf]; omega
              · have HY := hide (HX2.out.trans (if_pos hq0))
                have ht : (q != 0) = true := by simp [hq0]
                clear hq0
                go_wp2_with fail
                go_ret
                exact ⟨ret_int HY.out.symm, HB1.out.trans (HB6.out.mono HB1.out.size)⟩
        · have HY := hide (show r = 0 by rw [H.out, List.drop_of_length_le (by omega)]; rfl)
          clear hb
          go_wp2_with fail
          go_ret
          exact ⟨ret_int HY.out.symm, HBW.out⟩
end Go.Proofs.YtiikpdjjhnhiiaaDoor
