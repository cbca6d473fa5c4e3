/- The functions of package dname and its reference: Check. -/
import Derived.Test.YtbafpgdmnkkclaaGreatDoorNamA
import Derived.Test.YtbafpgdmnkkclaaGreatDoorLibD
namespace Go.Proofs.YtbafpgdmnkkclaaGreatDoor
open Go.RowKit

theorem cellN {w w9 : World} {C : Array Value} {t : TypeId} {i : Nat} {v : Value} (h : Below (w.alloc (.cells C t)).heap.size (w.alloc (.cells C t)) w9) (hv : C[i]? = some v) : w9.cell? ⟨w.heap.size, i, none⟩ = some v :=
  (h.cell (p := ⟨w.heap.size, i, none⟩) (by simp)).trans (by rw [World.cell?_alloc_new]; exact hv)
theorem below_new {w w9 : World} {o : Obj} (h : Below (w.alloc o).heap.size (w.alloc o) w9) : Below w.heap.size w w9 :=
  ((Below.refl _ _).alloc (Nat.le_refl _) _).trans (h.mono (by simp))
theorem str_eq (s t : ByteArray) : (s.toList = t.toList) ↔ s.data.toList = t.data.toList := by rw [ByteArray.toList_eq, ByteArray.toList_eq]
theorem str_beq (s t : ByteArray) : (s.toList == t.toList) = (s.data.toList == t.data.toList) := by rw [ByteArray.toList_eq, ByteArray.toList_eq]
theorem oid_v (s : ByteArray) (hs : s.size ≤ 1000000) (p : Bool) (hp : validB s.data.toList = p) (w : World) (hmx : Mx w) :
    Calls Tryz.prog 74 #[.string s] w fun e w' => e = .returned (.bool p) ∧ Below w.heap.size w w' := hp ▸ oidValid_any s hs w hmx
theorem roid_v (s : ByteArray) (hs : s.size ≤ 1000000) (p : Bool) (hp : validB s.data.toList = p) (w : World) (_hmx : Mx w) :
    Calls Tryz.prog 76 #[.string s] w fun e w' => e = .returned (.bool p) ∧ Below w.heap.size w w' := hp ▸ oidRValid_any s hs w
theorem text_v (k : Int) (s : ByteArray) (hs : s.size ≤ 1000000) (p : Bool) (hp : validT k s.data.toList = p) (w : World) :
    Calls Tryz.prog 75 #[.int .i64 k, .string s] w fun e w' => e = .returned (.bool p) ∧ Below w.heap.size w w' := hp ▸ Valid_any k s hs w
theorem rtext_v (k : Int) (s : ByteArray) (hs : s.size ≤ 1000000) (p : Bool) (hp : validT k s.data.toList = p) (w : World) :
    Calls Tryz.prog 77 #[.int .i64 k, .string s] w fun e w' => e = .returned (.bool p) ∧ Below w.heap.size w w' :=
  (rValid_any k s hs w).mono fun e w' ⟨he, hw⟩ => ⟨by rw [he, ← valid_eq, hp], by subst hw; exact Below.refl _ _⟩

theorem chkA_at {l : List Attr} {k : Nat} (h : k < l.length) : chkA (l.take k) (l.drop k) =
    if validB l[k].1 = false then 11 else if l[k].2.2 = [] ∨ validT l[k].2.1 l[k].2.2 = false then 13 else if 64 < l[k].2.2.length then 2 else if (l.take k).any (fun b => b.1 == l[k].1) then 10 else chkA (l.take (k + 1)) (l.drop (k + 1)) := by
  rw [List.drop_eq_getElem_cons h, chkA, List.take_succ_eq_append_getElem h]
theorem any_no {l : List Attr} {k : Nat} {t : List UInt8} (h : ∀ i (_ : i < k) (hi : i < l.length), l[i].1 ≠ t) : (l.take k).any (fun b => b.1 == t) = false := by
  rw [List.any_eq_false]
  intro x hx
  obtain ⟨i, hi, rfl⟩ := List.mem_iff_getElem.1 hx
  rw [List.length_take] at hi
  rw [List.getElem_take]
  simpa using h i (by omega) (by omega)
theorem any_yes {l : List Attr} {k i : Nat} {t : List UInt8} (hi : i < l.length) (hk : i < k) (h : l[i].1 = t) : (l.take k).any (fun b => b.1 == t) = true := by
  rw [List.any_eq_true]
  refine ⟨l[i], ?_, by simpa using h⟩
  rw [List.mem_iff_getElem]
  exact ⟨i, by rw [List.length_take]; omega, by rw [List.getElem_take]⟩




set_option maxRecDepth 100000 in
set_option maxHeartbeats 8000000 in
theorem checkRel_any (l : List Attr) (A : Option Addr) (c : Nat) (w : World) (hmx : Mx w) (h : Sl RAttr 3 w (Lt w.heap.size) l [.slice A l.length c]) (hsm : SmallR l) :
    Calls Tryz.prog 47 #[.slice A l.length c] w fun e w' => e = .returned (.int .i64 (chkR l)) ∧ Below w.heap.size w w' := by
  obtain ⟨-, hnc, hcm⟩ := h.len_
  unfold maxLen at hcm
  obtain ⟨r, hr⟩ : ∃ r, chkR l = r := ⟨_, rfl⟩
  rw [hr]
  have K := hide h
  have HMX := hide hmx
  have HSM := hide hsm
  clear h hmx hsm
  by_cases h0 : l.length = 0
  · have HY := hide (show r = 14 by rw [← hr, chkR, if_pos h0])
    have ht : ((l.length : Int) == 0) = true := by rw [h0]; rfl
    clear h0 hr
    go_enter Tryz.func47, Tryz.ntmps47
    go_wp2_with fail
    go_ret
    exact ⟨ret_int HY.out.symm, Below.refl _ _⟩
  · have ht : ((l.length : Int) == 0) = false := by rw [beq_eq_false_iff_ne]; omega
    by_cases h4 : 4 < l.length
    · have HY := hide (show r = 2 by rw [← hr, chkR, if_neg h0, if_pos h4])
      clear h0 hr
      go_enter Tryz.func47, Tryz.ntmps47
      go_wp2_with fail
      go_ret
      exact ⟨ret_int HY.out.symm, Below.refl _ _⟩
    · have H0 := hide (show r = chkA (l.take 0) (l.drop 0) by rw [← hr, chkR, if_neg h0, if_neg h4]; rfl)
      clear hr
      go_enter Tryz.func47, Tryz.ntmps47
      go_wp2_with fail
      go_loopw [15] (fun i wr => ∃ k : Nat, k ≤ l.length ∧ i = .int .i64 k ∧ Below w.heap.size w wr ∧ Hid (r = chkA (l.take k) (l.drop k))) (fun i _ => l.length - (intOf i).toNat)
      case atStart => exact ⟨0, by omega, rfl, Below.refl _ _, H0⟩
      case round =>
        obtain ⟨k, hk, rfl, hb, H⟩ := hrel
        by_cases hlt : k < l.length
        · obtain ⟨b, off, hA, hbS, hc0, hc1, hc2⟩ := K.out.attAt hlt
          subst hA
          obtain ⟨hs0, hs2⟩ := HSM.out l[k] (List.getElem_mem hlt)
          have HX := hide (H.out.trans (chkA_at hlt))
          obtain ⟨ty, hty⟩ : ∃ ty : ByteArray, ty = ⟨l[k].1.toArray⟩ := ⟨_, rfl⟩
          obtain ⟨va, hva⟩ : ∃ va : ByteArray, va = ⟨l[k].2.2.toArray⟩ := ⟨_, rfl⟩
          have hty2 : l[k].1 = ty.data.toList := by rw [hty]
          have hva2 : l[k].2.2 = va.data.toList := by rw [hva]
          obtain ⟨kd, hkd⟩ : ∃ kd, l[k].2.1 = kd := ⟨_, rfl⟩
          rw [hkd, hty2, hva2] at HX
          rw [← hty] at hc0
          rw [hkd] at hc1
          rw [← hva] at hc2
          rw [hty2, size_string] at hs0
          rw [hva2, size_string] at hs2
          have HTY := hide hty2
          obtain ⟨p, hp⟩ : ∃ p, validB ty.data.toList = p := ⟨_, rfl⟩
          obtain ⟨q, hq⟩ : ∃ q, validT kd va.data.toList = q := ⟨_, rfl⟩
          rw [hp, hq] at HX
          have HP := hide hp
          have HQ := hide hq
          have hbS' : b < w.heap.size := hbS
          have hd0 : wr.cell? ⟨b, off + k * 3, none⟩ = some (.string ty) := (hb.cell hbS').trans hc0
          have hd1 : wr.cell? ⟨b, off + k * 3 + 1, none⟩ = some (.int .i64 kd) := (hb.cell hbS').trans hc1
          have hd2 : wr.cell? ⟨b, off + k * 3 + 2, none⟩ = some (.string va) := (hb.cell hbS').trans hc2
          have HMr := hide (HMX.out.below hb)
          have HB := hide hb
          clear hc0 hc1 hc2 hty hva hty2 hva2 hkd hp hq hb
          go_wp2_with fail
          refine (oid_v ty (by omega) p HP.out _ (HMr.out.below ((Below.refl _ _).alloc (Nat.le_refl _) _))).mono ?_
          rintro e w5 ⟨rfl, hb5⟩
          have h50 := cellN (i := 0) hb5 rfl
          have h51 := cellN (i := 1) hb5 rfl
          have h52 := cellN (i := 2) hb5 rfl
          have hx5 := below_new hb5
          have hxlt : wr.heap.size < w5.heap.size := by have := hb5.size; simp at this; omega
          have HB5 := hide (HB.out.trans (hx5.mono HB.out.size))
          clear hb5 hd0 hd1 hd2
          cases p
          · have HY := hide (HX.out.trans (if_pos rfl))
            go_wp2_with fail
            go_ret
            exact ⟨ret_int HY.out.symm, HB5.out⟩
          · have HX1 := hide (HX.out.trans (if_neg (by simp)))
            by_cases hve : va.data.toList = []
            · have HY := hide (HX1.out.trans (if_pos (.inl hve)))
              have hve2 : va.toList = [] := by rw [ByteArray.toList_eq]; exact hve
              have hve3 : va.size = 0 := by rw [← size_string, hve]; rfl
              have hve4 : ((va.size : Int) == 0) = true := by rw [hve3]; rfl
              clear hve
              go_wp2_with fail
              go_ret
              exact ⟨ret_int HY.out.symm, HB5.out⟩
            · have hve2 : ¬ va.toList = [] := by rw [ByteArray.toList_eq]; exact hve
              have hve5 : (va.toList == []) = false := by simpa using hve2
              have hve6 : va.toList.isEmpty = false := by simpa using hve2
              have hve3 : va.size ≠ 0 := fun e => hve (List.eq_nil_of_length_eq_zero (by rw [size_string]; exact e))
              have hve4 : ((va.size : Int) == 0) = false := by rw [beq_eq_false_iff_ne]; omega
              have HVE := hide hve
              clear hve hve3 hve2
              go_wp2_with fail
              refine (text_v kd va (by omega) q HQ.out _).mono ?_
              rintro e w6 ⟨rfl, hb6⟩
              have h60 := cell_grows hb6 _ _ h50
              have h62 := cell_grows hb6 _ _ h52
              have hx6 := hx5.trans (hb6.mono hx5.size)
              have HB6 := hide (HB5.out.trans (hb6.mono HB5.out.size))
              have hxlt6 : wr.heap.size < w6.heap.size := Nat.lt_of_lt_of_le hxlt hb6.size
              clear hb6 h50 h51 h52 hx5 hve4 hve5 hve6 hxlt
              cases q
              · have HY := hide (HX1.out.trans (if_pos (.inr rfl)))
                go_wp2_with fail
                go_ret
                exact ⟨ret_int HY.out.symm, HB6.out⟩
              · have HX2 := hide (HX1.out.trans (if_neg (fun h => by rcases h with h | h; exact HVE.out h; cases h)))
                have hvs : va.data.toList.length = va.size := size_string va
                by_cases h64 : 64 < va.size
                · have HY := hide (HX2.out.trans (if_pos (by rw [hvs]; exact h64)))
                  clear hvs
                  go_wp2_with fail
                  go_ret
                  exact ⟨ret_int HY.out.symm, HB6.out⟩
                · have HX3 := hide (HX2.out.trans (if_neg (by rw [hvs]; exact h64)))
                  clear hvs
                  go_wp2_with fail
                  go_loopw [43] (fun i wi => ∃ j : Nat, j ≤ k ∧ i = .int .i64 j ∧ Below w6.heap.size w6 wi ∧ Hid (∀ i (_ : i < j) (hi : i < l.length), l[i].1 ≠ ty.data.toList)) (fun i _ => k - (intOf i).toNat)
                  case atStart => exact ⟨0, by omega, rfl, Below.refl _ _, hide (fun i hi => by omega)⟩
                  case round =>
                    obtain ⟨j, hj, rfl, hbi, HN⟩ := hrel
                    by_cases hjk : j < k
                    · obtain ⟨b', off', hA', hbS2, e0, e1, e2⟩ := K.out.attAt (i := j) (by omega)
                      simp only [Option.some.injEq, Addr.mk.injEq, and_true] at hA'
                      obtain ⟨rfl, rfl⟩ := hA'
                      obtain ⟨tb, htb⟩ : ∃ tb : ByteArray, tb = ⟨(l[j]'(by omega)).1.toArray⟩ := ⟨_, rfl⟩
                      have htb2 : (l[j]'(by omega)).1 = tb.data.toList := by rw [htb]
                      rw [← htb] at e0
                      obtain ⟨vb, hvb⟩ : ∃ vb : ByteArray, vb = ⟨(l[j]'(by omega)).2.2.toArray⟩ := ⟨_, rfl⟩
                      rw [← hvb] at e2
                      obtain ⟨kb, hkb⟩ : ∃ kb, (l[j]'(by omega)).2.1 = kb := ⟨_, rfl⟩
                      rw [hkb] at e1
                      have hbw := HB6.out.trans (hbi.mono HB6.out.size)
                      have d0 : wr.cell? ⟨b, off + j * 3, none⟩ = some (.string tb) := (hbw.cell hbS').trans e0
                      have d1 : wr.cell? ⟨b, off + j * 3 + 1, none⟩ = some (.int .i64 kb) := (hbw.cell hbS').trans e1
                      have d2 : wr.cell? ⟨b, off + j * 3 + 2, none⟩ = some (.string vb) := (hbw.cell hbS').trans e2
                      have d3 := cell_grows hbi _ _ h60
                      have hlt3 := Nat.lt_of_lt_of_le hxlt6 hbi.size
                      have HTB := hide htb2
                      have HBI := hide hbi
                      have HBW := hide hbw
                      have hsz6 := hbi.size
                      clear e0 e1 e2 htb htb2 hvb hkb hbi hbw
                      by_cases heq : tb.toList = ty.toList
                      · have HY := hide (HX3.out.trans (if_pos (any_yes (i := j) (by omega) hjk (by rw [HTB.out]; exact (str_eq tb ty).1 heq))))
                        have heq2 : (tb.toList == ty.toList) = true := by simpa using heq
                        go_wp2_with fail
                        go_ret
                        exact ⟨ret_int HY.out.symm, HBW.out.alloc (by have := HBW.out.size; omega) _⟩
                      · have heq2 : (tb.toList == ty.toList) = false := by simpa using heq
                        have HN2 := hide (show ∀ i (_ : i < j + 1) (hi : i < l.length), l[i].1 ≠ ty.data.toList from fun i hi hil e => by
                          rcases Nat.lt_or_ge i j with h | h
                          · exact HN.out i h hil e
                          · obtain rfl : i = j := by omega
                            exact heq ((str_eq tb ty).2 (HTB.out.symm.trans e)))
                        go_wp2_with fail
                        go_roundw
                        case rel => exact ⟨j + 1, by omega, by go_num, HBI.out.alloc hsz6 _, HN2⟩
                        case measure => simp [intOf]; omega
                    · have HX4 := hide (HX3.out.trans (if_neg (by rw [any_no (fun i hi hil => HN.out i (by omega) hil)]; simp)))
                      have HBW := hide (HB6.out.trans (hbi.mono HB6.out.size))
                      clear hbi
                      go_wp2_with fail
                      go_roundw
                      case rel => exact ⟨k + 1, by omega, by go_num, HBW.out, HX4⟩
                      case measure => simp [intOf]; omega
        · have HY := hide (show r = 0 by rw [H.out, List.drop_of_length_le (by omega)]; rfl)
          go_wp2_with fail
          go_ret
          exact ⟨ret_int HY.out.symm, hb⟩

set_option maxRecDepth 100000 in
set_option maxHeartbeats 8000000 in
theorem rcheckA_any (l : List Attr) (A : Option Addr) (c : Nat) (w : World) (hmx : Mx w) (h : Sl RAttr 3 w (Lt w.heap.size) l [.slice A l.length c]) (hsm : SmallR l) :
    Calls Tryz.prog 48 #[.slice A l.length c] w fun e w' => e = .returned (.int .i64 (chkA [] l)) ∧ Below w.heap.size w w' := by
  obtain ⟨-, hnc, hcm⟩ := h.len_
  unfold maxLen at hcm
  obtain ⟨r, hr⟩ : ∃ r, chkA [] l = r := ⟨_, rfl⟩
  rw [hr]
  have K := hide h
  have HMX := hide hmx
  have HSM := hide hsm
  have H0 := hide (show r = chkA (l.take 0) (l.drop 0) by rw [← hr]; rfl)
  clear h hmx hsm hr
  go_enter Tryz.func48, Tryz.ntmps48
  go_wp2_with fail
  go_loopw [8] (fun i wr => ∃ k : Nat, k ≤ l.length ∧ i = .int .i64 k ∧ Below w.heap.size w wr ∧ Hid (r = chkA (l.take k) (l.drop k))) (fun i _ => l.length - (intOf i).toNat)
  case atStart => exact ⟨0, by omega, rfl, Below.refl _ _, H0⟩
  case round =>
    obtain ⟨k, hk, rfl, hb, H⟩ := hrel
    by_cases hlt : k < l.length
    · obtain ⟨b, off, hA, hbS, hc0, hc1, hc2⟩ := K.out.attAt hlt
      subst hA
      obtain ⟨hs0, hs2⟩ := HSM.out l[k] (List.getElem_mem hlt)
      have HX := hide (H.out.trans (chkA_at hlt))
      obtain ⟨ty, hty⟩ : ∃ ty : ByteArray, ty = ⟨l[k].1.toArray⟩ := ⟨_, rfl⟩
      obtain ⟨va, hva⟩ : ∃ va : ByteArray, va = ⟨l[k].2.2.toArray⟩ := ⟨_, rfl⟩
      have hty2 : l[k].1 = ty.data.toList := by rw [hty]
      have hva2 : l[k].2.2 = va.data.toList := by rw [hva]
      obtain ⟨kd, hkd⟩ : ∃ kd, l[k].2.1 = kd := ⟨_, rfl⟩
      rw [hkd, hty2, hva2] at HX
      rw [← hty] at hc0
      rw [hkd] at hc1
      rw [← hva] at hc2
      rw [hty2, size_string] at hs0
      rw [hva2, size_string] at hs2
      have HTY := hide hty2
      obtain ⟨p, hp⟩ : ∃ p, validB ty.data.toList = p := ⟨_, rfl⟩
      obtain ⟨q, hq⟩ : ∃ q, validT kd va.data.toList = q := ⟨_, rfl⟩
      rw [hp, hq] at HX
      have HP := hide hp
      have HQ := hide hq
      have hbS' : b < w.heap.size := hbS
      have hd0 : wr.cell? ⟨b, off + k * 3, none⟩ = some (.string ty) := (hb.cell hbS').trans hc0
      have hd1 : wr.cell? ⟨b, off + k * 3 + 1, none⟩ = some (.int .i64 kd) := (hb.cell hbS').trans hc1
      have hd2 : wr.cell? ⟨b, off + k * 3 + 2, none⟩ = some (.string va) := (hb.cell hbS').trans hc2
      have HMr := hide (HMX.out.below hb)
      have HB := hide hb
      clear hc0 hc1 hc2 hty hva hty2 hva2 hkd hp hq hb
      go_wp2_with fail
      refine (roid_v ty (by omega) p HP.out _ (HMr.out.below ((Below.refl _ _).alloc (Nat.le_refl _) _))).mono ?_
      rintro e w5 ⟨rfl, hb5⟩
      have h50 := cellN (i := 0) hb5 rfl
      have h51 := cellN (i := 1) hb5 rfl
      have h52 := cellN (i := 2) hb5 rfl
      have hx5 := below_new hb5
      have hxlt : wr.heap.size < w5.heap.size := by have := hb5.size; simp at this; omega
      have HB5 := hide (HB.out.trans (hx5.mono HB.out.size))
      clear hb5 hd0 hd1 hd2
      cases p
      · have HY := hide (HX.out.trans (if_pos rfl))
        go_wp2_with fail
        go_ret
        exact ⟨ret_int HY.out.symm, HB5.out⟩
      · have HX1 := hide (HX.out.trans (if_neg (by simp)))
        by_cases hve : va.data.toList = []
        · have HY := hide (HX1.out.trans (if_pos (.inl hve)))
          have hve2 : va.toList = [] := by rw [ByteArray.toList_eq]; exact hve
          have hve3 : va.size = 0 := by rw [← size_string, hve]; rfl
          have hve4 : ((va.size : Int) == 0) = true := by rw [hve3]; rfl
          clear hve
          go_wp2_with fail
          go_ret
          exact ⟨ret_int HY.out.symm, HB5.out⟩
        · have hve2 : ¬ va.toList = [] := by rw [ByteArray.toList_eq]; exact hve
          have hve5 : (va.toList == []) = false := by simpa using hve2
          have hve6 : va.toList.isEmpty = false := by simpa using hve2
          have hve3 : va.size ≠ 0 := fun e => hve (List.eq_nil_of_length_eq_zero (by rw [size_string]; exact e))
          have hve4 : ((va.size : Int) == 0) = false := by rw [beq_eq_false_iff_ne]; omega
          have HVE := hide hve
          clear hve hve3 hve2
          go_wp2_with fail
          refine (rtext_v kd va (by omega) q HQ.out _).mono ?_
          rintro e w6 ⟨rfl, hb6⟩
          have h60 := cell_grows hb6 _ _ h50
          have h62 := cell_grows hb6 _ _ h52
          have hx6 := hx5.trans (hb6.mono hx5.size)
          have HB6 := hide (HB5.out.trans (hb6.mono HB5.out.size))
          have hxlt6 : wr.heap.size < w6.heap.size := Nat.lt_of_lt_of_le hxlt hb6.size
          clear hb6 h50 h51 h52 hx5 hve4 hve5 hve6 hxlt
          cases q
          · have HY := hide (HX1.out.trans (if_pos (.inr rfl)))
            go_wp2_with fail
            go_ret
            exact ⟨ret_int HY.out.symm, HB6.out⟩
          · have HX2 := hide (HX1.out.trans (if_neg (fun h => by rcases h with h | h; exact HVE.out h; cases h)))
            have hvs : va.data.toList.length = va.size := size_string va
            by_cases h64 : 64 < va.size
            · have HY := hide (HX2.out.trans (if_pos (by rw [hvs]; exact h64)))
              clear hvs
              go_wp2_with fail
              go_ret
              exact ⟨ret_int HY.out.symm, HB6.out⟩
            · have HX3 := hide (HX2.out.trans (if_neg (by rw [hvs]; exact h64)))
              clear hvs
              go_wp2_with fail
              go_loopw [5] (fun i wi => ∃ j : Nat, j ≤ k ∧ i = .int .i64 j ∧ Below w6.heap.size w6 wi ∧ Hid (∀ i (_ : i < j) (hi : i < l.length), l[i].1 ≠ ty.data.toList)) (fun i _ => k - (intOf i).toNat)
              case atStart => exact ⟨0, by omega, rfl, Below.refl _ _, hide (fun i hi => by omega)⟩
              case round =>
                obtain ⟨j, hj, rfl, hbi, HN⟩ := hrel
                by_cases hjk : j < k
                · obtain ⟨b', off', hA', hbS2, e0, e1, e2⟩ := K.out.attAt (i := j) (by omega)
                  simp only [Option.some.injEq, Addr.mk.injEq, and_true] at hA'
                  obtain ⟨rfl, rfl⟩ := hA'
                  obtain ⟨tb, htb⟩ : ∃ tb : ByteArray, tb = ⟨(l[j]'(by omega)).1.toArray⟩ := ⟨_, rfl⟩
                  have htb2 : (l[j]'(by omega)).1 = tb.data.toList := by rw [htb]
                  rw [← htb] at e0
                  have hbw := HB6.out.trans (hbi.mono HB6.out.size)
                  have d0 : wr.cell? ⟨b, off + j * 3, none⟩ = some (.string tb) := (hbw.cell hbS').trans e0
                  have d3 := cell_grows hbi _ _ h60
                  have HTB := hide htb2
                  have HBI := hide (fun n => below_drewN hbi n)
                  have HBW := hide (fun n => below_drewN hbw n)
                  have hj0 : (0 : Int) ≤ (j : Int) := by omega
                  have hjl : (j : Int) < (l.length : Int) := by omega
                  clear e0 e1 e2 htb htb2 hbi hbw
                  by_cases heq : tb.toList = ty.toList
                  · have HY := hide (HX3.out.trans (if_pos (any_yes (i := j) (by omega) hjk (by rw [HTB.out]; exact (str_eq tb ty).1 heq))))
                    have heq2 : (tb.toList == ty.toList) = true := by simpa using heq
                    go_wp2_with fail
                    go_quiet (fail)
                    go_wp2_with fail
                    go_ret
                    exact ⟨ret_int HY.out.symm, HBW.out _⟩
                  · have heq2 : (tb.toList == ty.toList) = false := by simpa using heq
                    have HN2 := hide (show ∀ i (_ : i < j + 1) (hi : i < l.length), l[i].1 ≠ ty.data.toList from fun i hi hil e => by
                      rcases Nat.lt_or_ge i j with h | h
                      · exact HN.out i h hil e
                      · obtain rfl : i = j := by omega
                        exact heq ((str_eq tb ty).2 (HTB.out.symm.trans e)))
                    go_wp2_with fail
                    go_quiet (fail)
                    go_wp2_with fail
                    go_roundw
                    case rel => exact ⟨j + 1, by omega, by go_num, HBI.out _, HN2⟩
                    case measure => simp [intOf]; omega
                · have HX4 := hide (HX3.out.trans (if_neg (by rw [any_no (fun i hi hil => HN.out i (by omega) hil)]; simp)))
                  have HBW := hide (HB6.out.trans (hbi.mono HB6.out.size))
                  clear hbi
                  go_wp2_with fail
                  go_roundw
                  case rel => exact ⟨k + 1, by omega, by go_num, HBW.out, HX4⟩
                  case measure => simp [intOf]; omega
    · have HY := hide (show r = 0 by rw [H.out, List.drop_of_length_le (by omega)]; rfl)
      go_wp2_with fail
      go_ret
      exact ⟨ret_int HY.out.symm, hb⟩



set_option maxHeartbeats 4000000 in
theorem Check_any (n : Name) (A : Option Addr) (c : Nat) (w : World) (hmx : Mx w) (h : Sl RRdn 1 w (Lt w.heap.size) n [.slice A n.length c]) (hsm : SmallN n) :
    Calls Tryz.prog 21 #[.agg #[.slice A n.length c]] w fun e w' => e = .returned (.int .i64 (chkN n)) ∧ Below w.heap.size w w' := by
  obtain ⟨-, hnc, hcm⟩ := h.len_
  unfold maxLen at hcm
  obtain ⟨r, hr⟩ : ∃ r, chkN n = r := ⟨_, rfl⟩
  rw [hr]
  have K := hide h
  have HMX := hide hmx
  have HSM := hide hsm
  clear h hmx hsm
  by_cases h8 : 8 < n.length
  · have HY := hide (show r = 2 by rw [← hr, chkN, if_pos h8])
    clear hr
    go_enter Tryz.func21, Tryz.ntmps21
    go_wp2_with fail
    go_ret
    exact ⟨ret_int HY.out.symm, (Below.refl _ _).alloc (Nat.le_refl _) _⟩
  · have H0 := hide (show r = chkRs (n.drop 0) by rw [← hr, chkN, if_neg h8]; rfl)
    clear hr
    go_enter Tryz.func21, Tryz.ntmps21
    go_wp2_with fail
    go_loopw [13] (fun i wr => ∃ k : Nat, k ≤ n.length ∧ i = .int .i64 k ∧ Below w.heap.size w wr ∧ Hid (r = chkRs (n.drop k))) (fun i _ => n.length - (intOf i).toNat)
    case atStart => exact ⟨0, by omega, rfl, (Below.refl _ _).alloc (Nat.le_refl _) _, H0⟩
    case round =>
      obtain ⟨k, hk, rfl, hb, H⟩ := hrel
      by_cases hlt : k < n.length
      · obtain ⟨b, off, A', c', hA, hbS, hc0, hsl⟩ := K.out.rdnAt hlt
        subst hA
        have hbS' : b < w.heap.size := hbS
        have hd0 : wr.cell? ⟨b, off + k, none⟩ = some (.slice A' n[k].length c') := (hb.cell hbS').trans hc0
        have hsm := HSM.out n[k] (List.getElem_mem hlt)
        have HX := hide (show r = if chkR n[k] = 0 then chkRs (n.drop (k + 1)) else chkR n[k] by rw [H.out, List.drop_eq_getElem_cons hlt, chkRs])
        have hslr := (Sl.ok RAttr.ok).below hsl hb
        obtain ⟨l, hl⟩ : ∃ l, n[k] = l := ⟨_, rfl⟩
        rw [hl] at hd0 hsm HX hslr
        have HSL := hide hslr
        have HMr := hide (HMX.out.below hb)
        have HSR := hide hsm
        have HB := hide hb
        clear hc0 hsl hl hslr hsm hb
        go_wp2_with fail
        refine (checkRel_any l _ _ _ HMr.out HSL.out HSR.out).mono ?_
        rintro e w5 ⟨rfl, hb5⟩
        have HB5 := hide (HB.out.trans (hb5.mono HB.out.size))
        have HCR := hide (rfl : chkR l = chkR l)
        clear hb5 hd0
        obtain ⟨q, hq⟩ : ∃ q, chkR l = q := ⟨_, rfl⟩
        rw [hq]
        have HQ := hide hq
        clear hq
        by_cases hq0 : q = 0
        · have HY := hide (HX.out.trans (if_pos (by rw [HCR.out, HQ.out, hq0])))
          have ht : (q != 0) = false := by simp [hq0]
          clear hq0
          go_wp2_with fail
          go_roundw
          case rel => exact ⟨k + 1, by omega, by go_num, HB5.out, HY⟩
          case measure => simp [intOf]; omega
        · have HY := hide (show r = q from (HX.out.trans (if_neg (by rw [HCR.out, HQ.out]; exact hq0))).trans (HCR.out.trans HQ.out))
          have ht : (q != 0) = true := by simp [hq0]
          clear hq0
          go_wp2_with fail
          go_ret
          exact ⟨ret_int HY.out.symm, HB5.out⟩
      · have HY := hide (show r = 0 by rw [H.out, List.drop_of_length_le (by omega)]; rfl)
        go_wp2_with fail
        go_ret
        exact ⟨ret_int HY.out.symm, hb⟩

set_option maxHeartbeats 4000000 in
theorem rCheck_any (n : Name) (A : Option Addr) (c : Nat) (w : World) (hmx : Mx w) (h : Sl RRdn 1 w (Lt w.heap.size) n [.slice A n.length c]) (hsm : SmallN n) :
    Calls Tryz.prog 22 #[.agg #[.slice A n.length c]] w fun e w' => e = .returned (.int .i64 (chkN n)) ∧ Below w.heap.size w w' := by
  obtain ⟨-, hnc, hcm⟩ := h.len_
  unfold maxLen at hcm
  obtain ⟨r, hr⟩ : ∃ r, chkN n = r := ⟨_, rfl⟩
  rw [hr]
  have K := hide h
  have HMX := hide hmx
  have HSM := hide hsm
  clear h hmx hsm
  by_cases h8 : 8 < n.length
  · have HY := hide (show r = 2 by rw [← hr, chkN, if_pos h8])
    clear hr
    go_enter Tryz.func22, Tryz.ntmps22
    go_wp2_with fail
    go_ret
    exact ⟨ret_int HY.out.symm, (Below.refl _ _).alloc (Nat.le_refl _) _⟩
  · have H0 := hide (show r = chkRs (n.drop 0) by rw [← hr, chkN, if_neg h8]; rfl)
    clear hr
    go_enter Tryz.func22, Tryz.ntmps22
    go_wp2_with fail
    go_loopw [13] (fun i wr => ∃ k : Nat, k ≤ n.length ∧ i = .int .i64 k ∧ Below w.heap.size w wr ∧ Hid (r = chkRs (n.drop k))) (fun i _ => n.length - (intOf i).toNat)
    case atStart => exact ⟨0, by omega, rfl, (Below.refl _ _).alloc (Nat.le_refl _) _, H0⟩
    case round =>
      obtain ⟨k, hk, rfl, hb, H⟩ := hrel
      by_cases hlt : k < n.length
      · obtain ⟨b, off, A', c', hA, hbS, hc0, hsl⟩ := K.out.rdnAt hlt
        subst hA
        have hbS' : b < w.heap.size := hbS
        have hd0 : wr.cell? ⟨b, off + k, none⟩ = some (.slice A' n[k].length c') := (hb.cell hbS').trans hc0
        have hsm := HSM.out n[k] (List.getElem_mem hlt)
        have HX := hide (show r = if chkR n[k] = 0 then chkRs (n.drop (k + 1)) else chkR n[k] by rw [H.out, List.drop_eq_getElem_cons hlt, chkRs])
        have hslr := (Sl.ok RAttr.ok).below hsl hb
        obtain ⟨l, hl⟩ : ∃ l, n[k] = l := ⟨_, rfl⟩
        rw [hl] at hd0 hsm HX hslr
        have HSL := hide hslr
        have HMr := hide (HMX.out.below hb)
        have HSR := hide hsm
        have HB := hide hb
        clear hc0 hsl hl hslr hsm hb
        by_cases hl0 : l.length = 0
        · have HY := hide (HX.out.trans (if_neg (by rw [chkR, if_pos hl0]; decide)))
          have HZ := hide (show r = 14 by rw [HY.out, chkR, if_pos hl0])
          have ht : ((l.length : Int) == 0) = true := by rw [hl0]; rfl
          clear hl0
          go_wp2_with fail
          go_ret
          exact ⟨ret_int HZ.out.symm, HB.out⟩
        · have ht : ((l.length : Int) == 0) = false := by rw [beq_eq_false_iff_ne]; omega
          by_cases hl4 : 4 < l.length
          · have HY := hide (HX.out.trans (if_neg (by rw [chkR, if_neg hl0, if_pos hl4]; decide)))
            have HZ := hide (show r = 2 by rw [HY.out, chkR, if_neg hl0, if_pos hl4])
            clear hl0
            go_wp2_with fail
            go_ret
            exact ⟨ret_int HZ.out.symm, HB.out⟩
          · have HCR := hide (show chkR l = chkA [] l by rw [chkR, if_neg hl0, if_neg hl4])
            clear hl0
            go_wp2_with fail
            refine (rcheckA_any l _ _ _ HMr.out HSL.out HSR.out).mono ?_
            rintro e w5 ⟨rfl, hb5⟩
            have HB5 := hide (HB.out.trans (hb5.mono HB.out.size))
            clear hb5 hd0 ht
            obtain ⟨q, hq⟩ : ∃ q, chkA [] l = q := ⟨_, rfl⟩
            rw [hq]
            have HQ := hide hq
            clear hq
            by_cases hq0 : q = 0
            · have HY := hide (HX.out.trans (if_pos (by rw [HCR.out, HQ.out, hq0])))
              have ht : (q != 0) = false := by simp [hq0]
              clear hq0
              go_wp2_with fail
              go_roundw
              case rel => exact ⟨k + 1, by omega, by go_num, HB5.out, HY⟩
              case measure => simp [intOf]; omega
            · have HY := hide (show r = q from (HX.out.trans (if_neg (by rw [HCR.out, HQ.out]; exact hq0))).trans (HCR.out.trans HQ.out))
              have ht : (q != 0) = true := by simp [hq0]
              clear hq0
              go_wp2_with fail
              go_ret
              exact ⟨ret_int HY.out.symm, HB5.out⟩
      · have HY := hide (show r = 0 by rw [H.out, List.drop_of_length_le (by omega)]; rfl)
        go_wp2_with fail
        go_ret
        exact ⟨ret_int HY.out.symm, hb⟩
end Go.Proofs.YtbafpgdmnkkclaaGreatDoor
