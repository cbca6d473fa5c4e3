/- The functions of package dname and its reference: has, same, Within, Match. -/
import Derived.Test.YtbafpgdmnkkclaaGreatDoorNamB
import Derived.Deep.RegionHeld3
namespace Go.Proofs.YtbafpgdmnkkclaaGreatDoor
open Go.RowKit

theorem match_v (s t : ByteArray) (hs : s.size ≤ 1000000) (ht : t.size ≤ 1000000) (q : Bool) (hq : (foldF s.data.toList == foldF t.data.toList) = q) (w : World) :
    Calls Tryz.prog 168 #[.string s, .string t] w fun e w' => e = .returned (.bool q) ∧ Below w.heap.size w w' := hq ▸ Match_any s t hs ht w
theorem rmatch_v (s t : ByteArray) (hs : s.size ≤ 1000000) (ht : t.size ≤ 1000000) (q : Bool) (hq : (foldF s.data.toList == foldF t.data.toList) = q) (w : World) :
    Calls Tryz.prog 157 #[.string t, .string s] w fun e w' => e = .returned (.bool q) ∧ Below w.heap.size w w' :=
  (rMatch_any t s ht hs w).mono fun e w' ⟨he, hb⟩ => ⟨by rw [he, ← fold_eq, ← fold_eq, ← hq]; exact ret_bool Bool.beq_comm, hb⟩

def attV (a : Attr) : Value := .agg #[.string ⟨a.1.toArray⟩, .int .i64 a.2.1, .string ⟨a.2.2.toArray⟩]
theorem below_new2 {B : Nat} {w0 w w9 : World} {o : Obj} (h0 : Below B w0 w) (hB : B ≤ w.heap.size) (h : Below (w.alloc o).heap.size (w.alloc o) w9) : Below B w0 w9 :=
  h0.trans ((below_new h).mono hB)


set_option maxRecDepth 100000 in
set_option maxHeartbeats 4000000 in
theorem has_any (l : List Attr) (x : Attr) (A : Option Addr) (c : Nat) (w : World) (h : Sl RAttr 3 w (Lt w.heap.size) l [.slice A l.length c]) (hsm : SmallR l) (hx : SmallA x) :
    Calls Tryz.prog 140 #[.slice A l.length c, attV x] w fun e w' => e = .returned (.bool (hasA l x)) ∧ Below w.heap.size w w' := by
  obtain ⟨-, hnc, hcm⟩ := h.len_
  unfold maxLen at hcm
  obtain ⟨r, hr⟩ : ∃ r, hasA l x = r := ⟨_, rfl⟩
  rw [hr]
  have K := hide h
  have HSM := hide hsm
  have H0 := hide (show r = (l.drop 0).any (sameB x) by rw [← hr]; rfl)
  obtain ⟨xt, kx, xv⟩ := x
  obtain ⟨hx0, hx2⟩ := hx
  obtain ⟨ty, hty⟩ : ∃ ty : ByteArray, ty = ⟨xt.toArray⟩ := ⟨_, rfl⟩
  obtain ⟨va, hva⟩ : ∃ va : ByteArray, va = ⟨xv.toArray⟩ := ⟨_, rfl⟩
  have hty2 : xt = ty.data.toList := by rw [hty]
  have hva2 : xv = va.data.toList := by rw [hva]
  have hx0' : xt.length ≤ 131072 := hx0
  have hx2' : xv.length ≤ 131072 := hx2
  rw [hty2, size_string] at hx0'
  rw [hva2, size_string] at hx2'
  show Calls _ _ #[_, .agg #[.string ⟨xt.toArray⟩, .int .i64 kx, .string ⟨xv.toArray⟩]] _ _
  rw [← hty, ← hva]
  have HTY := hide hty2
  have HVA := hide hva2
  clear h hsm hr hx0 hx2 hty hva hty2 hva2
  go_enter Tryz.func140, Tryz.ntmps140
  go_wp2_with fail
  obtain ⟨wa, hwa⟩ : ∃ wa, wa = w.alloc (.cells #[.string ty, .int .i64 kx, .string va] 40) := ⟨_, rfl⟩
  have ha0 : wa.cell? ⟨w.heap.size, 0, none⟩ = some (.string ty) := by rw [hwa, World.cell?_alloc_new]; rfl
  have ha2 : wa.cell? ⟨w.heap.size, 2, none⟩ = some (.string va) := by rw [hwa, World.cell?_alloc_new]; rfl
  have hba : Below w.heap.size w wa := by rw [hwa]; exact (Below.refl _ _).alloc (Nat.le_refl _) _
  have hza : wa.heap.size = w.heap.size + 1 := by rw [hwa]; simp
  rw [← hwa]
  have HA0 := hide ha0
  have HA2 := hide ha2
  have HBA := hide hba
  have HZA := hide hza
  clear hwa ha0 ha2 hba hza
  go_loopw [9] (fun i wr => ∃ k : Nat, k ≤ l.length ∧ i = .int .i64 k ∧ Below wa.heap.size wa wr ∧ Hid (r = (l.drop k).any (sameB (xt, kx, xv)))) (fun i _ => l.length - (intOf i).toNat)
  case atStart => exact ⟨0, by omega, rfl, Below.refl _ _, H0⟩
  case round =>
    obtain ⟨k, hk, rfl, hb, H⟩ := hrel
    have hbw := HBA.out.trans (hb.mono HBA.out.size)
    have HBW := hide hbw
    by_cases hlt : k < l.length
    · obtain ⟨b, off, hA, hbS, hc0, hc1, hc2⟩ := K.out.attAt hlt
      subst hA
      obtain ⟨hs0, hs2⟩ := HSM.out l[k] (List.getElem_mem hlt)
      obtain ⟨tb, htb⟩ : ∃ tb : ByteArray, tb = ⟨l[k].1.toArray⟩ := ⟨_, rfl⟩
      obtain ⟨vb, hvb⟩ : ∃ vb : ByteArray, vb = ⟨l[k].2.2.toArray⟩ := ⟨_, rfl⟩
      have htb2 : l[k].1 = tb.data.toList := by rw [htb]
      have hvb2 : l[k].2.2 = vb.data.toList := by rw [hvb]
      obtain ⟨kb, hkb⟩ : ∃ kb, l[k].2.1 = kb := ⟨_, rfl⟩
      rw [← htb] at hc0
      rw [hkb] at hc1
      rw [← hvb] at hc2
      rw [htb2, size_string] at hs0
      rw [hvb2, size_string] at hs2
      obtain ⟨q, hq⟩ : ∃ q, (foldF va.data.toList == foldF vb.data.toList) = q := ⟨_, rfl⟩
      have HX := hide (show r = ((ty.data.toList == tb.data.toList && q) || (l.drop (k + 1)).any (sameB (xt, kx, xv))) by
        rw [H.out, List.drop_eq_getElem_cons hlt, List.any_cons]
        congr 1
        show (xt == l[k].1 && foldF xv == foldF l[k].2.2) = _
        rw [htb2, hvb2, HTY.out, HVA.out, hq])
      have HQ := hide hq
      have hbS' : b < w.heap.size := hbS
      have hd0 : wr.cell? ⟨b, off + k * 3, none⟩ = some (.string tb) := (hbw.cell hbS').trans hc0
      have hd1 : wr.cell? ⟨b, off + k * 3 + 1, none⟩ = some (.int .i64 kb) := (hbw.cell hbS').trans hc1
      have hd2 : wr.cell? ⟨b, off + k * 3 + 2, none⟩ = some (.string vb) := (hbw.cell hbS').trans hc2
      have he0 := cell_grows hb _ _ HA0.out
      have he2 := cell_grows hb _ _ HA2.out
      have hez : w.heap.size < wr.heap.size := by have := HZA.out; have := hb.size; omega
      have hsz := hb.size
      have HB := hide hb
      clear hc0 hc1 hc2 htb hvb htb2 hvb2 hkb hq hb hbw
      by_cases heq : ty.toList = tb.toList
      · have heq1 : (ty.toList == tb.toList) = true := by simpa using heq
        have heq3 : tb.toList = ty.toList := heq.symm
        have heq4 : (tb.toList == ty.toList) = true := by simpa using heq3
        have HX2 := hide (show r = (q || (l.drop (k + 1)).any (sameB (xt, kx, xv))) by
          rw [HX.out, show (ty.data.toList == tb.data.toList) = true by simpa using (str_eq ty tb).1 heq]; rfl)
        have HEQ := hide heq
        clear heq heq3
        go_wp2_with fail
        refine (match_v va vb (by omega) (by omega) q HQ.out _).mono ?_
        rintro e w5 ⟨rfl, hb5⟩
        have HB5 := hide (below_new2 HB.out hsz hb5)
        have HBW5 := hide (below_new2 HBW.out HBW.out.size hb5)
        clear hb5 hd0 hd1 hd2 he0 he2
        cases q
        · go_wp2_with fail
          go_roundw
          case rel => exact ⟨k + 1, by omega, by go_num, HB5.out, HX2⟩
          case measure => simp [intOf]; omega
        · go_wp2_with fail
          go_ret
          exact ⟨ret_bool (show true = r by rw [HX2.out]; rfl), HBW5.out⟩
      · have heq1 : (ty.toList == tb.toList) = false := by simpa using heq
        have heq3 : ¬ tb.toList = ty.toList := fun e => heq e.symm
        have heq4 : (tb.toList == ty.toList) = false := by simpa using heq3
        have HX2 := hide (show r = (l.drop (k + 1)).any (sameB (xt, kx, xv)) by
          rw [HX.out, show (ty.data.toList == tb.data.toList) = false by simpa using fun e => heq ((str_eq ty tb).2 e)]; rfl)
        go_wp2_with fail
        go_roundw
        case rel => exact ⟨k + 1, by omega, by go_num, HB.out.alloc hsz _, HX2⟩
        case measure => simp [intOf]; omega
    · have HX := hide (show r = false by rw [H.out, List.drop_of_length_le (by omega)]; rfl)
      clear hb hbw
      go_wp2_with fail
      go_ret
      exact ⟨ret_bool HX.out.symm, HBW.out⟩
set_option maxRecDepth 100000 in
set_option maxHeartbeats 4000000 in
theorem rhas_any (l : List Attr) (x : Attr) (A : Option Addr) (c : Nat) (w : World) (h : Sl RAttr 3 w (Lt w.heap.size) l [.slice A l.length c]) (hsm : SmallR l) (hx : SmallA x) :
    Calls Tryz.prog 137 #[.slice A l.length c, attV x] w fun e w' => e = .returned (.bool (hasA l x)) ∧ Below w.heap.size w w' := by
  obtain ⟨-, hnc, hcm⟩ := h.len_
  unfold maxLen at hcm
  obtain ⟨r, hr⟩ : ∃ r, hasA l x = r := ⟨_, rfl⟩
  rw [hr]
  have K := hide h
  have HSM := hide hsm
  have H0 := hide (show r = (l.drop 0).any (sameB x) by rw [← hr]; rfl)
  obtain ⟨xt, kx, xv⟩ := x
  obtain ⟨hx0, hx2⟩ := hx
  obtain ⟨ty, hty⟩ : ∃ ty : ByteArray, ty = ⟨xt.toArray⟩ := ⟨_, rfl⟩
  obtain ⟨va, hva⟩ : ∃ va : ByteArray, va = ⟨xv.toArray⟩ := ⟨_, rfl⟩
  have hty2 : xt = ty.data.toList := by rw [hty]
  have hva2 : xv = va.data.toList := by rw [hva]
  have hx0' : xt.length ≤ 131072 := hx0
  have hx2' : xv.length ≤ 131072 := hx2
  rw [hty2, size_string] at hx0'
  rw [hva2, size_string] at hx2'
  show Calls _ _ #[_, .agg #[.string ⟨xt.toArray⟩, .int .i64 kx, .string ⟨xv.toArray⟩]] _ _
  rw [← hty, ← hva]
  have HTY := hide hty2
  have HVA := hide hva2
  clear h hsm hr hx0 hx2 hty hva hty2 hva2
  go_enter Tryz.func137, Tryz.ntmps137
  go_wp2_with fail
  obtain ⟨wa, hwa⟩ : ∃ wa, wa = w.alloc (.cells #[.string ty, .int .i64 kx, .string va] 40) := ⟨_, rfl⟩
  have ha0 : wa.cell? ⟨w.heap.size, 0, none⟩ = some (.string ty) := by rw [hwa, World.cell?_alloc_new]; rfl
  have ha2 : wa.cell? ⟨w.heap.size, 2, none⟩ = some (.string va) := by rw [hwa, World.cell?_alloc_new]; rfl
  have hba : Below w.heap.size w wa := by rw [hwa]; exact (Below.refl _ _).alloc (Nat.le_refl _) _
  have hza : wa.heap.size = w.heap.size + 1 := by rw [hwa]; simp
  rw [← hwa]
  have HA0 := hide ha0
  have HA2 := hide ha2
  have HBA := hide hba
  have HZA := hide hza
  clear hwa ha0 ha2 hba hza
  go_loopw [9] (fun i wr => ∃ k : Nat, k ≤ l.length ∧ i = .int .i64 k ∧ Below wa.heap.size wa wr ∧ Hid (r = (l.drop k).any (sameB (xt, kx, xv)))) (fun i _ => l.length - (intOf i).toNat)
  case atStart => exact ⟨0, by omega, rfl, Below.refl _ _, H0⟩
  case round =>
    obtain ⟨k, hk, rfl, hb, H⟩ := hrel
    have hbw := HBA.out.trans (hb.mono HBA.out.size)
    have HBW := hide hbw
    by_cases hlt : k < l.length
    · obtain ⟨b, off, hA, hbS, hc0, hc1, hc2⟩ := K.out.attAt hlt
      subst hA
      obtain ⟨hs0, hs2⟩ := HSM.out l[k] (List.getElem_mem hlt)
      obtain ⟨tb, htb⟩ : ∃ tb : ByteArray, tb = ⟨l[k].1.toArray⟩ := ⟨_, rfl⟩
      obtain ⟨vb, hvb⟩ : ∃ vb : ByteArray, vb = ⟨l[k].2.2.toArray⟩ := ⟨_, rfl⟩
      have htb2 : l[k].1 = tb.data.toList := by rw [htb]
      have hvb2 : l[k].2.2 = vb.data.toList := by rw [hvb]
      obtain ⟨kb, hkb⟩ : ∃ kb, l[k].2.1 = kb := ⟨_, rfl⟩
      rw [← htb] at hc0
      rw [hkb] at hc1
      rw [← hvb] at hc2
      rw [htb2, size_string] at hs0
      rw [hvb2, size_string] at hs2
      obtain ⟨q, hq⟩ : ∃ q, (foldF va.data.toList == foldF vb.data.toList) = q := ⟨_, rfl⟩
      have HX := hide (show r = ((ty.data.toList == tb.data.toList && q) || (l.drop (k + 1)).any (sameB (xt, kx, xv))) by
        rw [H.out, List.drop_eq_getElem_cons hlt, List.any_cons]
        congr 1
        show (xt == l[k].1 && foldF xv == foldF l[k].2.2) = _
        rw [htb2, hvb2, HTY.out, HVA.out, hq])
      have HQ := hide hq
      have hbS' : b < w.heap.size := hbS
      have hd0 : wr.cell? ⟨b, off + k * 3, none⟩ = some (.string tb) := (hbw.cell hbS').trans hc0
      have hd1 : wr.cell? ⟨b, off + k * 3 + 1, none⟩ = some (.int .i64 kb) := (hbw.cell hbS').trans hc1
      have hd2 : wr.cell? ⟨b, off + k * 3 + 2, none⟩ = some (.string vb) := (hbw.cell hbS').trans hc2
      have he0 := cell_grows hb _ _ HA0.out
      have he2 := cell_grows hb _ _ HA2.out
      have hez : w.heap.size < wr.heap.size := by have := HZA.out; have := hb.size; omega
      have hsz := hb.size
      have HB := hide hb
      clear hc0 hc1 hc2 htb hvb htb2 hvb2 hkb hq hb hbw
      by_cases heq : ty.toList = tb.toList
      · have heq1 : (ty.toList == tb.toList) = true := by simpa using heq
        have heq3 : tb.toList = ty.toList := heq.symm
        have heq4 : (tb.toList == ty.toList) = true := by simpa using heq3
        have HX2 := hide (show r = (q || (l.drop (k + 1)).any (sameB (xt, kx, xv))) by
          rw [HX.out, show (ty.data.toList == tb.data.toList) = true by simpa using (str_eq ty tb).1 heq]; rfl)
        have HEQ := hide heq
        clear heq heq3
        go_wp2_with fail
        refine (rmatch_v va vb (by omega) (by omega) q HQ.out _).mono ?_
        rintro e w5 ⟨rfl, hb5⟩
        have HB5 := hide (below_new2 HB.out hsz hb5)
        have HBW5 := hide (below_new2 HBW.out HBW.out.size hb5)
        clear hb5 hd0 hd1 hd2 he0 he2
        cases q
        · go_wp2_with fail
          go_roundw
          case rel => exact ⟨k + 1, by omega, by go_num, HB5.out, HX2⟩
          case measure => simp [intOf]; omega
        · go_wp2_with fail
          go_ret
          exact ⟨ret_bool (show true = r by rw [HX2.out]; rfl), HBW5.out⟩
      · have heq1 : (ty.toList == tb.toList) = false := by simpa using heq
        have heq3 : ¬ tb.toList = ty.toList := fun e => heq e.symm
        have heq4 : (tb.toList == ty.toList) = false := by simpa using heq3
        have HX2 := hide (show r = (l.drop (k + 1)).any (sameB (xt, kx, xv)) by
          rw [HX.out, show (ty.data.toList == tb.data.toList) = false by simpa using fun e => heq ((str_eq ty tb).2 e)]; rfl)
        go_wp2_with fail
        go_roundw
        case rel => exact ⟨k + 1, by omega, by go_num, HB.out.alloc hsz _, HX2⟩
        case measure => simp [intOf]; omega
    · have HX := hide (show r = false by rw [H.out, List.drop_of_length_le (by omega)]; rfl)
      clear hb hbw
      go_wp2_with fail
      go_ret
      exact ⟨ret_bool HX.out.symm, HBW.out⟩

theorem attAt_v {w : World} {S : Nat → Prop} {A : Option Addr} {n c : Nat} {l : List Attr} (h : Sl RAttr 3 w S l [.slice A n c]) {i : Nat} (hi : i < l.length) :
    ∃ b off, A = some ⟨b, off, none⟩ ∧ S b ∧ w.cell? ⟨b, off + i * 3, none⟩ = some (.string ⟨l[i].1.toArray⟩) ∧ w.cell? ⟨b, off + i * 3 + 1, none⟩ = some (.int .i64 l[i].2.1) ∧ w.cell? ⟨b, off + i * 3 + 2, none⟩ = some (.string ⟨l[i].2.2.toArray⟩) := h.attAt hi


set_option maxRecDepth 100000 in
set_option maxHeartbeats 4000000 in
theorem same_any (a b : List Attr) (A B : Option Addr) (c d : Nat) (w : World) (h : Sl RAttr 3 w (Lt w.heap.size) a [.slice A a.length c]) (h2 : Sl RAttr 3 w (Lt w.heap.size) b [.slice B b.length d]) (hs1 : SmallR a) (hs2 : SmallR b) :
    Calls Tryz.prog 95 #[.slice A a.length c, .slice B b.length d] w fun e w' => e = .returned (.bool (sameR a b)) ∧ Below w.heap.size w w' := by
  obtain ⟨-, hnc, hcm⟩ := h.len_
  obtain ⟨-, hnc2, hcm2⟩ := h2.len_
  unfold maxLen at hcm hcm2
  obtain ⟨r, hr⟩ : ∃ r, sameR a b = r := ⟨_, rfl⟩
  rw [hr]
  have K := hide h
  have K2 := hide h2
  have HS1 := hide hs1
  have HS2 := hide hs2
  clear h h2 hs1 hs2
  by_cases hl : a.length = b.length
  · have H0 := hide (show r = sameZ a b ((a.zip b).drop 0) by rw [← hr, sameR, decide_eq_true hl]; rfl)
    have ht : ((a.length : Int) != (b.length : Int)) = false := by simp [hl]
    have HL := hide hl
    have hl2 : a.length ≤ b.length := by omega
    clear hr hl
    go_enter Tryz.func95, Tryz.ntmps95
    go_wp2_with fail
    clear ht
    go_loopw [13] (fun i wr => ∃ k : Nat, k ≤ a.length ∧ i = .int .i64 k ∧ Below w.heap.size w wr ∧ Hid (r = sameZ a b ((a.zip b).drop k))) (fun i _ => a.length - (intOf i).toNat)
    case atStart => exact ⟨0, by omega, rfl, Below.refl _ _, H0⟩
    case round =>
      obtain ⟨k, hk, rfl, hb, H⟩ := hrel
      by_cases hlt : k < a.length
      · obtain ⟨b1, o1, hA, hbS, c0, c1, c2⟩ := attAt_v K.out hlt
        obtain ⟨b2, o2, hA2, hbS2, d0, d1, d2⟩ := attAt_v K2.out (i := k) (by omega)
        subst hA hA2
        have hbS' : b1 < w.heap.size := hbS
        have hbS2' : b2 < w.heap.size := hbS2
        have hx1 := HS1.out a[k] (List.getElem_mem hlt)
        have hx2 := HS2.out (b[k]'(by omega)) (List.getElem_mem _)
        have HX := hide (show r = (hasA b a[k] && hasA a (b[k]'(by omega)) && sameZ a b ((a.zip b).drop (k + 1))) by
          rw [H.out, List.drop_eq_getElem_cons (show k < (a.zip b).length by rw [List.length_zip]; omega), List.getElem_zip]; rfl)
        obtain ⟨x, hx⟩ : ∃ x, a[k] = x := ⟨_, rfl⟩
        obtain ⟨y, hy⟩ : ∃ y, b[k]'(by omega) = y := ⟨_, rfl⟩
        rw [hx] at c0 c1 c2 hx1 HX
        rw [hy] at d0 d1 d2 hx2 HX
        obtain ⟨p1, hp1⟩ : ∃ p, hasA b x = p := ⟨_, rfl⟩
        obtain ⟨p2, hp2⟩ : ∃ p, hasA a y = p := ⟨_, rfl⟩
        rw [hp1, hp2] at HX
        have HP1 := hide hp1
        have HP2 := hide hp2
        have e0 := (hb.cell (p := ⟨b1, o1 + k * 3, none⟩) hbS').trans c0
        have e1 := (hb.cell (p := ⟨b1, o1 + k * 3 + 1, none⟩) hbS').trans c1
        have e2 := (hb.cell (p := ⟨b1, o1 + k * 3 + 2, none⟩) hbS').trans c2
        have HD0 := hide d0
        have HD1 := hide d1
        have HD2 := hide d2
        have HKa := hide ((Sl.ok RAttr.ok).below K2.out hb)
        have HX1 := hide hx1
        have HX2 := hide hx2
        have HB := hide hb
        have hkb : k < b.length := by omega
        clear c0 c1 c2 d0 d1 d2 hx hy hp1 hp2 hx1 hx2 hb
        go_wp2_with fail
        refine (has_any b x _ _ _ HKa.out HS2.out HX1.out).mono ?_
        rintro e w5 ⟨rfl, hb5⟩
        rw [HP1.out]
        have HB5 := hide (HB.out.trans (hb5.mono HB.out.size))
        have HKb := hide ((Sl.ok RAttr.ok).below K.out HB5.out)
        have f0 := (HB5.out.cell (p := ⟨b2, o2 + k * 3, none⟩) hbS2').trans HD0.out
        have f1 := (HB5.out.cell (p := ⟨b2, o2 + k * 3 + 1, none⟩) hbS2').trans HD1.out
        have f2 := (HB5.out.cell (p := ⟨b2, o2 + k * 3 + 2, none⟩) hbS2').trans HD2.out
        clear hb5 e0 e1 e2
        cases p1
        · have HY := hide (show r = false by rw [HX.out]; rfl)
          go_wp2_with fail
          go_ret
          exact ⟨ret_bool HY.out.symm, HB5.out⟩
        · go_wp2_with fail
          refine (has_any a y _ _ _ HKb.out HS1.out HX2.out).mono ?_
          rintro e w6 ⟨rfl, hb6⟩
          rw [HP2.out]
          have HB6 := hide (HB5.out.trans (hb6.mono HB5.out.size))
          clear hb6 f0 f1 f2
          cases p2
          · have HY := hide (show r = false by rw [HX.out]; rfl)
            go_wp2_with fail
            go_ret
            exact ⟨ret_bool HY.out.symm, HB6.out⟩
          · have HY := hide (show r = sameZ a b ((a.zip b).drop (k + 1)) by rw [HX.out]; rfl)
            go_wp2_with fail
            go_roundw
            case rel => exact ⟨k + 1, by omega, by go_num, HB6.out, HY⟩
            case measure => simp [intOf]; omega
      · have HX := hide (show r = true by rw [H.out, List.drop_of_length_le (by rw [List.length_zip]; omega)]; rfl)
        go_wp2_with fail
        go_ret
        exact ⟨ret_bool HX.out.symm, hb⟩
  · have HX := hide (show r = false by rw [← hr, sameR, decide_eq_false hl]; rfl)
    have ht : ((a.length : Int) != (b.length : Int)) = true := by simp; omega
    clear hr hl
    go_enter Tryz.func95, Tryz.ntmps95
    go_wp2_with fail
    go_ret
    exact ⟨ret_bool HX.out.symm, Below.refl _ _⟩
set_option maxRecDepth 100000 in
set_option maxHeartbeats 4000000 in
theorem rsame_any (a b : List Attr) (A B : Option Addr) (c d : Nat) (w : World) (h : Sl RAttr 3 w (Lt w.heap.size) a [.slice A a.length c]) (h2 : Sl RAttr 3 w (Lt w.heap.size) b [.slice B b.length d]) (hs1 : SmallR a) (hs2 : SmallR b) :
    Calls Tryz.prog 92 #[.slice A a.length c, .slice B b.length d] w fun e w' => e = .returned (.bool (sameR a b)) ∧ Below w.heap.size w w' := by
  obtain ⟨-, hnc, hcm⟩ := h.len_
  obtain ⟨-, hnc2, hcm2⟩ := h2.len_
  unfold maxLen at hcm hcm2
  obtain ⟨r, hr⟩ : ∃ r, sameR a b = r := ⟨_, rfl⟩
  rw [hr]
  have K := hide h
  have K2 := hide h2
  have HS1 := hide hs1
  have HS2 := hide hs2
  clear h h2 hs1 hs2
  by_cases hl : a.length = b.length
  · have H0 := hide (show r = sameZ a b ((a.zip b).drop 0) by rw [← hr, sameR, decide_eq_true hl]; rfl)
    have ht : ((a.length : Int) != (b.length : Int)) = false := by simp [hl]
    have HL := hide hl
    have hl2 : a.length ≤ b.length := by omega
    clear hr hl
    go_enter Tryz.func92, Tryz.ntmps92
    go_wp2_with fail
    clear ht
    go_loopw [13] (fun i wr => ∃ k : Nat, k ≤ a.length ∧ i = .int .i64 k ∧ Below w.heap.size w wr ∧ Hid (r = sameZ a b ((a.zip b).drop k))) (fun i _ => a.length - (intOf i).toNat)
    case atStart => exact ⟨0, by omega, rfl, Below.refl _ _, H0⟩
    case round =>
      obtain ⟨k, hk, rfl, hb, H⟩ := hrel
      by_cases hlt : k < a.length
      · obtain ⟨b1, o1, hA, hbS, c0, c1, c2⟩ := attAt_v K.out hlt
        obtain ⟨b2, o2, hA2, hbS2, d0, d1, d2⟩ := attAt_v K2.out (i := k) (by omega)
        subst hA hA2
        have hbS' : b1 < w.heap.size := hbS
        have hbS2' : b2 < w.heap.size := hbS2
        have hx1 := HS1.out a[k] (List.getElem_mem hlt)
        have hx2 := HS2.out (b[k]'(by omega)) (List.getElem_mem _)
        have HX := hide (show r = (hasA b a[k] && hasA a (b[k]'(by omega)) && sameZ a b ((a.zip b).drop (k + 1))) by
          rw [H.out, List.drop_eq_getElem_cons (show k < (a.zip b).length by rw [List.length_zip]; omega), List.getElem_zip]; rfl)
        obtain ⟨x, hx⟩ : ∃ x, a[k] = x := ⟨_, rfl⟩
        obtain ⟨y, hy⟩ : ∃ y, b[k]'(by omega) = y := ⟨_, rfl⟩
        rw [hx] at c0 c1 c2 hx1 HX
        rw [hy] at d0 d1 d2 hx2 HX
        obtain ⟨p1, hp1⟩ : ∃ p, hasA b x = p := ⟨_, rfl⟩
        obtain ⟨p2, hp2⟩ : ∃ p, hasA a y = p := ⟨_, rfl⟩
        rw [hp1, hp2] at HX
        have HP1 := hide hp1
        have HP2 := hide hp2
        have e0 := (hb.cell (p := ⟨b1, o1 + k * 3, none⟩) hbS').trans c0
        have e1 := (hb.cell (p := ⟨b1, o1 + k * 3 + 1, none⟩) hbS').trans c1
        have e2 := (hb.cell (p := ⟨b1, o1 + k * 3 + 2, none⟩) hbS').trans c2
        have HD0 := hide d0
        have HD1 := hide d1
        have HD2 := hide d2
        have HKa := hide ((Sl.ok RAttr.ok).below K2.out hb)
        have HX1 := hide hx1
        have HX2 := hide hx2
        have HB := hide hb
        have hkb : k < b.length := by omega
        clear c0 c1 c2 d0 d1 d2 hx hy hp1 hp2 hx1 hx2 hb
        go_wp2_with fail
        refine (rhas_any b x _ _ _ HKa.out HS2.out HX1.out).mono ?_
        rintro e w5 ⟨rfl, hb5⟩
        rw [HP1.out]
        have HB5 := hide (HB.out.trans (hb5.mono HB.out.size))
        have HKb := hide ((Sl.ok RAttr.ok).below K.out HB5.out)
        have f0 := (HB5.out.cell (p := ⟨b2, o2 + k * 3, none⟩) hbS2').trans HD0.out
        have f1 := (HB5.out.cell (p := ⟨b2, o2 + k * 3 + 1, none⟩) hbS2').trans HD1.out
        have f2 := (HB5.out.cell (p := ⟨b2, o2 + k * 3 + 2, none⟩) hbS2').trans HD2.out
        clear hb5 e0 e1 e2
        cases p1
        · have HY := hide (show r = false by rw [HX.out]; rfl)
          go_wp2_with fail
          go_ret
          exact ⟨ret_bool HY.out.symm, HB5.out⟩
        · go_wp2_with fail
          refine (rhas_any a y _ _ _ HKb.out HS1.out HX2.out).mono ?_
          rintro e w6 ⟨rfl, hb6⟩
          rw [HP2.out]
          have HB6 := hide (HB5.out.trans (hb6.mono HB5.out.size))
          clear hb6 f0 f1 f2
          cases p2
          · have HY := hide (show r = false by rw [HX.out]; rfl)
            go_wp2_with fail
            go_ret
            exact ⟨ret_bool HY.out.symm, HB6.out⟩
          · have HY := hide (show r = sameZ a b ((a.zip b).drop (k + 1)) by rw [HX.out]; rfl)
            go_wp2_with fail
            go_roundw
            case rel => exact ⟨k + 1, by omega, by go_num, HB6.out, HY⟩
            case measure => simp [intOf]; omega
      · have HX := hide (show r = true by rw [H.out, List.drop_of_length_le (by rw [List.length_zip]; omega)]; rfl)
        go_wp2_with fail
        go_ret
        exact ⟨ret_bool HX.out.symm, hb⟩
  · have HX := hide (show r = false by rw [← hr, sameR, decide_eq_false hl]; rfl)
    have ht : ((a.length : Int) != (b.length : Int)) = true := by simp; omega
    clear hr hl
    go_enter Tryz.func92, Tryz.ntmps92
    go_wp2_with fail
    go_ret
    exact ⟨ret_bool HX.out.symm, Below.refl _ _⟩
end Go.Proofs.YtbafpgdmnkkclaaGreatDoor
