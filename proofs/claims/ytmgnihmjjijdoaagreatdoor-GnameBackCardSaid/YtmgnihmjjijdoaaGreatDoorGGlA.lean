/- Lists of general names, plain: what EncodeList writes, what DecodeList reads. -/
import Derived.Test.YtmgnihmjjijdoaaGreatDoorGGcA
import Derived.Test.YtmgnihmjjijdoaaGreatDoorGdB
namespace Go.Proofs.YtmgnihmjjijdoaaGreatDoor
open Go.RowKit
def chkGs (c : Bool) : List Gen → Int
 | [] => 0
 | g :: l => if chkG g c = 0 then chkGs c l else chkG g c
theorem chkGs_iff (c : Bool) : ∀ l : List Gen, chkGs c l = 0 ↔ ∀ g ∈ l, chkG g c = 0
  | [] => by simp [chkGs]
  | g :: l => by
    rw [chkGs]
    by_cases h : chkG g c = 0
    · rw [if_pos h, chkGs_iff c l]
      simp [h]
    · rw [if_neg h]
      simp [h]
theorem chkGs_go {c : Bool} {l : List Gen} {k : Nat} (h : k < l.length) {q : Int} (hq : chkG l[k] c = q) (h0 : q = 0) : chkGs c (l.drop k) = chkGs c (l.drop (k + 1)) := by
 rw [List.drop_eq_getElem_cons h, chkGs, if_pos (hq.trans h0)]
theorem chkGs_no {c : Bool} {l : List Gen} {k : Nat} (h : k < l.length) {q : Int} (hq : chkG l[k] c = q) (h0 : q ≠ 0) : chkGs c (l.drop k) = q := by
 rw [List.drop_eq_getElem_cons h, chkGs, if_neg (by rw [hq]; exact h0), hq]
theorem encGB_len {g : Gen} {c : Bool} (h : chkG g c = 0) (hs : g.2.1.length ≤ 100000) : (encGB g).length ≤ 100010 := by
 unfold encGB
 split
 ·rename_i h4
  have hn : chkN g.2.2 = 0 := by
   unfold chkG at h
   rw [if_pos h4] at h
   split at h
   ·exact h
   ·cases h
  rw [wrapW_len]
  have := encB_size hn
  have := lenB_le (encB g.2.2).length
  omega
 ·rw [wrapW_len]
  have := lenB_le g.2.1.length
  omega
theorem gflat_len (c : Bool) : ∀ l : List Gen, (∀ g ∈ l, chkG g c = 0) → SmallGs l → (l.flatMap encGB).length ≤ l.length * 100010
  | [], _, _ => by simp
  | g :: l, h, hs => by
    have h1 := encGB_len (h g (by simp)) (hs g (by simp)).1
    have h2 := gflat_len c l (fun x hx => h x (by simp [hx])) (fun x hx => hs x (by simp [hx]))
    rw [List.flatMap_cons, List.length_append, List.length_cons, Nat.add_mul]
    omega
theorem gflat_step (l : List Gen) (k : Nat) (h : k < l.length) : (l.take (k + 1)).flatMap encGB = (l.take k).flatMap encGB ++ encGB l[k] := by
 rw [List.take_succ_eq_append_getElem h, List.flatMap_append, List.flatMap_cons, List.flatMap_nil, List.append_nil]
def cntE (n : Nat) : Int := if n = 0 then 7 else if 16 < n then 2 else 0
def encGL (l : List Gen) : List UInt8 × Int := if cntE l.length = 0 then (if chkGs false l = 0 then (l.flatMap encGB, 0) else ([], chkGs false l)) else ([], cntE l.length)
theorem cntE_iff (n : Nat) : cntE n = 0 ↔ 1 ≤ n ∧ n ≤ 16 := by
 unfold cntE
 split
 ·simp; omega
 ·split
  ·simp; omega
  ·simp; omega
def decGE (c : Bool) (e : Elt) : Except Int Gen := decG (e.1 : Int) e.2.1 c
def decLL : Except Int (List Elt) → Except Int (List Gen)
 | .error k => .error k
 | .ok l => if cntE l.length = 0 then mapE (decGE false) l else .error (cntE l.length)
def decGLs (b : List UInt8) : Except Int (List Gen) := decLL (listF b)
def toGs : Except Int (List Gen) → Int × List Gen
 | .error k => (k, [])
 | .ok l => (0, l)
theorem decGC_err0 {g : Gen} {c : Bool} : decGC g c ≠ .error 0 := fun h => by
 unfold decGC at h
 split at h
 ·cases h
 ·rename_i hn
  exact hn (Except.error.inj h)
theorem decG_err0 {t : Int} {x : List UInt8} {c : Bool} : decG t x c ≠ .error 0 := fun h => by
  unfold decG at h
  split at h
  · exact decGC_err0 h
  · split at h
    · cases hd : decN x with
      | error k =>
        rw [hd] at h
        simp only [decGN, Except.error.injEq] at h
        subst h
        exact decN_err0' x hd
      | ok n =>
        rw [hd] at h
        exact decGC_err0 h
    · cases h
theorem decGE_enc {g : Gen} {c : Bool} (h : chkG g c = 0) (hs : g.2.1.length ≤ 131072) :
  ∃ e : Elt, oneF (encGB g) = .ok e ∧ (∀ r, readF (encGB g ++ r) = .ok (e, r)) ∧ decGE c e = .ok (g.1, g.2.1, if g.1 = 4 then g.2.2.map sortR else g.2.2) ∧ sameNB g.2.2 (if g.1 = 4 then g.2.2.map sortR else g.2.2) = true ∧ e.2.2 = encGB g ∧ e.2.1.length ≤ 131072 := by
 obtain ⟨k, t, n⟩ := g
 simp only at hs
 by_cases h4 : k = 4
 ·subst h4
  have hk : t = [] ∧ chkN n = 0 := by
   rw [chkG] at h
   simp only [if_true] at h
   by_cases ht : t = []
   ·rw [if_pos ht] at h; exact ⟨ht, h⟩
   ·rw [if_neg ht] at h; cases h
  obtain ⟨rfl, hn⟩ := hk
  have hz := encB_size hn
  have he : encGB (4, ([] : List UInt8), n) = wrapW 164 (encB n) := rfl
  refine ⟨(164, encB n, wrapW 164 (encB n)), ?_, fun r => ?_, ?_, ?_, ?_, ?_⟩
  ·rw [he]; exact one_wrap 164 (by decide) (by decide) _ (by omega)
  ·rw [he]; exact read_wrap 164 (by decide) (by decide) _ _ (by omega)
  ·show decG 164 (encB n) c = _
   rw [decG, if_neg (by decide), if_pos rfl, decN_enc hn, decGN]
   simp only [if_true]
   rw [decGC_ok]
   rw [chkG]
   simp only [if_true]
   exact chkN_sort hn
  ·simp only [if_true]; exact same_sort n
  ·rw [he]
  ·show (encB n).length ≤ _; omega
 ·rcases chkG_kind h h4 with hk | hk | hk
  all_goals
   have hk' : k = _ := hk
   subst hk'
   have hh := h
   rw [chkG, if_neg h4] at hh
   split at hh
   case isFalse => cases hh
   rename_i hv
   obtain ⟨hn, hv⟩ := hv
   have hn' : n = [] := hn
   subst hn'
  ·refine ⟨(129, t, wrapW 129 t), one_wrap 129 (by decide) (by decide) _ hs, fun r => read_wrap 129 (by decide) (by decide) _ _ hs, ?_, rfl, rfl, hs⟩
   show decG 129 t c = _
   rw [decG, if_pos (.inl rfl)]
   exact decGC_ok h
  ·refine ⟨(130, t, wrapW 130 t), one_wrap 130 (by decide) (by decide) _ hs, fun r => read_wrap 130 (by decide) (by decide) _ _ hs, ?_, rfl, rfl, hs⟩
   show decG 130 t c = _
   rw [decG, if_pos (.inr (.inl rfl))]
   exact decGC_ok h
  ·refine ⟨(135, t, wrapW 135 t), one_wrap 135 (by decide) (by decide) _ hs, fun r => read_wrap 135 (by decide) (by decide) _ _ hs, ?_, rfl, rfl, hs⟩
   show decG 135 t c = _
   rw [decG, if_pos (.inr (.inr rfl))]
   exact decGC_ok h
def sameGB (a b : Gen) : Bool := (a.1 == b.1 && a.2.1 == b.2.1) && sameNB a.2.2 b.2.2
def sameGsB : List Gen → List Gen → Bool
 | [], [] => true
 | a :: l, b :: m => sameGB a b && sameGsB l m
 | _, _ => false
theorem sameGsB_at : ∀ {n m : List Gen}, sameGsB n m = true → n.length = m.length ∧ ∀ (i : Nat) (h : i < n.length) (h2 : i < m.length), sameGB n[i] m[i] = true
  | [], [], _ => ⟨rfl, fun i h => absurd h (by simp)⟩
  | a :: n, b :: m, h => by
    rw [sameGsB, Bool.and_eq_true] at h
    obtain ⟨h1, h2⟩ := sameGsB_at h.2
    refine ⟨by simp [h1], fun i hi hi2 => ?_⟩
    match i with
    | 0 => exact h.1
    | i + 1 => exact h2 i (by simpa using hi) (by simpa using hi2)
  | [], _ :: _, h => by cases h
  | _ :: _, [], h => by cases h
def sortG (g : Gen) : Gen := (g.1, g.2.1, if g.1 = 4 then g.2.2.map sortR else g.2.2)
theorem list_encG (c : Bool) : ∀ l : List Gen, (∀ g ∈ l, chkG g c = 0) → (∀ g ∈ l, g.2.1.length ≤ 131072) →
    ∃ es : List Elt, listF (l.flatMap encGB) = .ok es ∧ es.length = l.length ∧ mapE (decGE c) es = .ok (l.map sortG) ∧ sameGsB l (l.map sortG) = true
  | [], _, _ => ⟨[], rfl, rfl, rfl, rfl⟩
  | g :: l, h, hs => by
    obtain ⟨es, e1, e2, e3, e4⟩ := list_encG c l (fun x hx => h x (by simp [hx])) (fun x hx => hs x (by simp [hx]))
    obtain ⟨e, o1, o2, o3, o4, o5, o6⟩ := decGE_enc (h g (by simp)) (hs g (by simp))
    refine ⟨e :: es, ?_, by simp [e2], ?_, ?_⟩
    · rw [List.flatMap_cons, listF_cons (o2 _), e1]
    · rw [mapE, o3, e3]
      rfl
    · rw [List.map_cons, sameGsB, e4, Bool.and_true, sameGB]
      simp only [sortG, beq_self_eq_true, Bool.true_and]
      exact o4
end Go.Proofs.YtmgnihmjjijdoaaGreatDoor
namespace Go.Proofs.YtmgnihmjjijdoaaGreatDoor
open Go.RowKit
set_option maxHeartbeats 1000000 in
theorem count_any (n : Nat) (hn : n ≤ 9223372036854775807) (w : World) : Calls Tryz.prog 55 #[.int .i64 (n : Int)] w fun e w' => e = .returned (.int .i64 (cntE n)) ∧ w = w' := by
 by_cases h0 : n = 0
 ·subst h0
  go_enter Tryz.func55, Tryz.ntmps55
  go_wp2_with fail
  go_ret
  exact ⟨rfl, rfl⟩
 ·have t0 : ((n : Int) == 0) = false := beq_false_of_ne (by omega)
  by_cases h1 : 16 < n
  ·have HN := hide (show (2 : Int) = cntE n by rw [cntE, if_neg h0, if_pos h1])
   have h2 : (16 : Int) < (n : Int) := by omega
   clear h0 h1
   go_enter Tryz.func55, Tryz.ntmps55
   go_wp2_with fail
   go_ret
   exact ⟨ret_int HN.out, rfl⟩
  ·have HN := hide (show (0 : Int) = cntE n by rw [cntE, if_neg h0, if_neg h1])
   have h2 : ¬ (16 : Int) < (n : Int) := by omega
   clear h0 h1
   go_enter Tryz.func55, Tryz.ntmps55
   go_wp2_with fail
   go_ret
   exact ⟨ret_int HN.out, rfl⟩
set_option maxRecDepth 100000 in
set_option maxHeartbeats 8000000 in
theorem gEncodeL_any (l : List Gen) (A : Option Addr) (c : Nat) (hs : SmallGs l) (w : World) (hmx : Mx w) (h : Sl RGen 3 w (Lt w.heap.size) l [.slice A l.length c]) :
  Calls Tryz.prog 21 #[.slice A l.length c] w fun e w' => e = .returned (wrapR (encGL l)) ∧ Below w.heap.size w w' := by
 obtain ⟨-, hnc, hcm⟩ := h.len_
 unfold maxLen at hcm
 have HMX := hide hmx
 have K := hide h
 have HSS := hide hs
 obtain ⟨o, ho⟩ : ∃ o, encGL l = o := ⟨_, rfl⟩
 rw [ho]
 have HO := hide ho
 clear hmx h hs ho
 obtain ⟨q, hq⟩ : ∃ q, cntE l.length = q := ⟨_, rfl⟩
 have HQ0 := hide hq
 clear hq
 go_enter Tryz.func21, Tryz.ntmps21
 go_wp2_with fail
 refine (count_any l.length (by omega) _).mono ?_
 rintro e w1 ⟨rfl, rfl⟩
 rw [HQ0.out]
 by_cases hq0 : q = 0
 ·subst hq0
  have HC0 := hide HQ0.out
  have hl16 := ((cntE_iff _).1 HC0.out).2
  have H0 := hide (show chkGs false l = chkGs false (l.drop 0) by rw [List.drop_zero])
  go_wp2_with fail
  go_loopw [5, 18] (fun s i wr => ∃ (k : Nat) (y : ByteArray), k ≤ l.length ∧ i = .int .i64 k ∧ s = .string y ∧ Below w.heap.size w wr ∧ y.size ≤ k * 100010 ∧ Hid (y.data.toList = (l.take k).flatMap encGB) ∧ Hid (chkGs false l = chkGs false (l.drop k))) (fun _ i _ => l.length - (intOf i).toNat)
  case atStart => exact ⟨0, ⟨#[]⟩, by omega, rfl, rfl, Below.refl _ _, by simp [ByteArray.size], hide (by simp), H0⟩
  case round =>
   obtain ⟨k, y, hk, rfl, rfl, hb, hys, HYL, HCK⟩ := hrel
   have HB := hide hb
   by_cases hlt : k < l.length
   ·obtain ⟨b2, o2, t, A2, c2, hB, hbS, ht2, d0, d1, d2, hsl⟩ := K.out.genAt hlt
    subst hB
    have hbS' : b2 < w.heap.size := hbS
    have hsg := HSS.out l[k] (List.getElem_mem hlt)
    have hstep := gflat_step l k hlt
    have hgo := fun (q : Int) => chkGs_go (c := false) (q := q) hlt
    have hno := fun (q : Int) => chkGs_no (c := false) (q := q) hlt
    obtain ⟨g, hg⟩ : ∃ g, l[k] = g := ⟨_, rfl⟩
    rw [hg] at d0 d2 hsl ht2 hsg hstep hgo hno
    obtain ⟨kb, t', nb⟩ := g
    simp only at d0 d2 hsl ht2
    subst ht2
    have f0 := (hb.cell (p := ⟨b2, o2 + k * 3, none⟩) hbS').trans d0
    have f1 := (hb.cell (p := ⟨b2, o2 + k * 3 + 1, none⟩) hbS').trans d1
    have f2 := (hb.cell (p := ⟨b2, o2 + k * 3 + 2, none⟩) hbS').trans d2
    have hts : t.size ≤ 100000 := by rw [← size_string]; exact hsg.1
    have HSN := hide hsg.2
    have HSG := hide hsg
    have HSTEP := hide hstep
    have HGO := hide hgo
    have HNO := hide hno
    have HK := hide hk
    have HYS := hide hys
    obtain ⟨wi, hwi⟩ : ∃ W, W = wr.alloc (.cells #[.int .i64 kb, .string t, .slice A2 nb.length c2] 26) := ⟨_, rfl⟩
    obtain ⟨e0, e1, e2⟩ := gen_cells9 hwi
    have hbi : Below wr.heap.size wr wi := by rw [hwi]; exact (Below.refl _ _).alloc (Nat.le_refl _) _
    have HBI := hide (hb.trans (hbi.mono hb.size))
    have HSL := hide ((Sl.ok RRdn.ok).below hsl (hb.trans (hbi.mono hb.size)))
    obtain ⟨gx, hgx⟩ : ∃ g, wr.heap.size = g := ⟨_, rfl⟩
    rw [hgx] at e0 e1 e2
    clear hb hbi d0 d1 d2 hsl hsg hstep hgo hno hbS hbS' hg hk hys
    go_upto_region 8 with fail
    rw [← hwi]
    try rw [hgx]
    clear hwi hgx f0 f1 f2
    go_wp2_with fail
    refine (gEncode_any kb t nb false A2 c2 hts HSN.out _ (HMX.out.below HBI.out) HSL.out).mono ?_
    rintro e w2 ⟨rfl, hb2⟩
    have HB2 := hide (HBI.out.trans (hb2.mono HBI.out.size))
    obtain ⟨q, hq⟩ : ∃ q, chkG (kb, t.data.toList, nb) false = q := ⟨_, rfl⟩
    have HQ := hide hq
    clear hb2 e0 e1 e2 hq
    by_cases hq0 : q = 0
    ·subst hq0
     obtain ⟨x, hx⟩ : ∃ x : ByteArray, x = ⟨(encGB (kb, t.data.toList, nb)).toArray⟩ := ⟨_, rfl⟩
     have hxs : x.size ≤ 100010 := by rw [hx, ba_mk]; exact encGB_len HQ.out HSG.out.1
     have HE := hide (show wrapR (encG (kb, t.data.toList, nb) false) = .tuple #[.string x, .int .i64 0] by rw [encG, if_pos HQ.out, wrapR, hx])
     rw [HE.out]
     have hyb : y.size ≤ 1600160 := Nat.le_trans HYS.out (Nat.mul_le_mul_right 100010 (show k ≤ 16 from Nat.le_trans HK.out hl16))
     have hbs : ¬ 9223372036854775807 < y.size + x.size := by omega
     have HZ := hide (show (y ++ x).data.toList = (l.take (k + 1)).flatMap encGB by rw [HSTEP.out, ← HYL.out, hx]; simp [ByteArray.data_append])
     have hus0 : (y ++ x).size ≤ (k + 1) * 100010 := by rw [ba_size, Nat.add_mul, Nat.one_mul]; exact Nat.add_le_add HYS.out hxs
     obtain ⟨u, hu⟩ : ∃ yy9 : ByteArray, y ++ x = yy9 := ⟨_, rfl⟩
     rw [hu] at HZ hus0
     have HUS := hide hus0
     have HCK2 := hide (HCK.out.trans (HGO.out 0 HQ.out rfl))
     clear hx hxs hyb hus0
     go_wp2_with fail
     go_roundw
     case rel => exact ⟨k + 1, u, by omega, by go_num, rfl, HB2.out, HUS.out, HZ, HCK2⟩
     case measure => simp [intOf]; omega
    ·have htq : (q != 0) = true := by simp [hq0]
     have HCE := hide (HCK.out.trans (HNO.out q HQ.out hq0))
     have HE := hide (show wrapR (encG (kb, t.data.toList, nb) false) = .tuple #[.string ⟨#[]⟩, .int .i64 q] by rw [encG, if_neg (by rw [HQ.out]; exact hq0), HQ.out, wrapR])
     rw [HE.out]
     have HN := hide (show wrapR o = .tuple #[.string ⟨#[]⟩, .int .i64 q] by rw [← HO.out, encGL, if_pos HC0.out, if_neg (by rw [HCE.out]; exact hq0), HCE.out, wrapR])
     clear hq0
     go_wp2_with fail
     go_ret2
     exact ⟨by rw [HN.out]; rfl, HB2.out⟩
   ·have HN := hide (show wrapR o = .tuple #[.string y, .int .i64 0] by
     have h1 : chkGs false l = 0 := by
      have h9 := HCK.out
      rw [List.drop_of_length_le (by omega)] at h9
      exact h9
     have h2 := HYL.out
     rw [List.take_of_length_le (by omega)] at h2
     rw [← HO.out, encGL, if_pos HC0.out, if_pos h1, wrapR, ← h2])
    clear hb
    go_wp2_with fail
    go_ret2
    exact ⟨by rw [HN.out]; rfl, HB.out⟩
 ·have htq : (q != 0) = true := by simp [hq0]
  have HN := hide (show wrapR o = .tuple #[.string ⟨#[]⟩, .int .i64 q] by rw [← HO.out, encGL, if_neg (by rw [HQ0.out]; exact hq0), HQ0.out, wrapR])
  clear hq0
  go_wp2_with fail
  go_ret2
  exact ⟨by rw [HN.out]; rfl, Below.refl _ _⟩
end Go.Proofs.YtmgnihmjjijdoaaGreatDoor
namespace Go.Proofs.YtmgnihmjjijdoaaGreatDoor
open Go.RowKit
def DecLPost (w : World) (p : Int × List Gen) (e : Ending) (w' : World) : Prop :=
 ∃ (A : Option Addr) (c : Nat), e = .returned (.tuple #[.slice A p.2.length c, .int .i64 p.1]) ∧ Sl RGen 3 w' (Lt w'.heap.size) p.2 [.slice A p.2.length c] ∧ Below w.heap.size w w' ∧ MedGs p.2
theorem DecLPost.err {w : World} {r : Except Int (List Gen)} {q : Int} {e : Ending} {w' : World} (hr : r = .error q) (he : e = .returned (.tuple #[.slice none 0 0, .int .i64 q])) (hb : Below w.heap.size w w') : DecLPost w (toGs r) e w' := by
 subst hr
 exact ⟨none, 0, he, Sl.nil _ _ _ _, hb, fun g hg => by cases hg⟩
theorem DecLPost.ok {w : World} {r : Except Int (List Gen)} {l : List Gen} {A : Option Addr} {c : Nat} {e : Ending} {w' : World} (hr : r = .ok l) (he : e = .returned (.tuple #[.slice A l.length c, .int .i64 0])) (hsl : Sl RGen 3 w' (Lt w'.heap.size) l [.slice A l.length c]) (hb : Below w.heap.size w w') (hm : MedGs l) : DecLPost w (toGs r) e w' := by
 subst hr
 exact ⟨A, c, he, hsl, hb, hm⟩
set_option maxRecDepth 100000 in
set_option maxHeartbeats 8000000 in
theorem gDecodeL_any (s : ByteArray) (hs : s.size ≤ 1000000000) (w : World) (hmx : Mx w) (htb : Tb w) :
    Calls Tryz.prog 22 #[.string s] w (DecLPost w (toGs (decGLs s.data.toList))) := by
  obtain ⟨r, hr⟩ : ∃ r, decGLs s.data.toList = r := ⟨_, rfl⟩
  rw [hr]
  obtain ⟨ol, hol⟩ : ∃ o, listF s.data.toList = o := ⟨_, rfl⟩
  have HRO := hide (show r = decLL ol by rw [← hr, decGLs, hol])
  have HOL := hide hol
  have HMX := hide hmx
  have HTB := hide htb
  clear hr hol hmx htb
  go_enter Tryz.func22, Tryz.ntmps22
  go_wp2_with fail
  refine (List_any s hs _).mono ?_
  rintro e wL ⟨hbL, hres⟩
  rw [HOL.out] at hres
  have HBL := hide hbL
  have hzL := hbL.size
  clear hbL
  cases ol with
  | error k =>
    obtain rfl : e = _ := hres
    have hk : k ≠ 0 := fun h => list_err0 _ _ (Nat.le_refl _) (h ▸ HOL.out)
    have ht2 : (k != 0) = true := by simpa using hk
    have HN := hide (show r = .error k from HRO.out)
    clear hk
    go_wp2_with fail
    go_ret2
    exact DecLPost.err HN.out rfl HBL.out
  | ok L =>
    obtain ⟨A, cp, rfl, hsl⟩ := hres
    obtain ⟨-, hlc, hcm⟩ := hsl.len_
    unfold maxLen at hcm
    have HML := hide (fun (k : Nat) (h : k < L.length) => (list_is_wrap _ _ _ (Nat.le_refl _) HOL.out L[k] (List.getElem_mem h)).2.2.1)
    have HSL := hide (show Sl RElt 3 wL (Lt wL.heap.size) L [.slice A L.length cp] from (Sl.ok RElt.ok).mono hsl (fun _ _ => rfl) (fun j hj => hj.2))
    obtain ⟨q, hq⟩ : ∃ q, cntE L.length = q := ⟨_, rfl⟩
    have HQ0 := hide hq
    clear hsl hq
    go_wp2_with fail
    refine (count_any L.length (by omega) _).mono ?_
    rintro e w1 ⟨rfl, rfl⟩
    rw [HQ0.out]
    by_cases hq0 : q = 0
    · subst hq0
      have hl16 := ((cntE_iff _).1 HQ0.out).2
      have HR := hide (show r = mapE (decGE false) L by rw [HRO.out, decLL, if_pos HQ0.out])
      -- L : List Elt, its slice A cp, in blocks made before the loop; HR : r = mapE (decGE c0) L
      obtain ⟨base, hbase⟩ : ∃ b, b = wL.heap.size := ⟨_, rfl⟩
      have hgs0 : base ≤ wL.heap.size := by omega
      have hbw : w.heap.size ≤ base := by omega
      have HBASE := hide hbase
      have H0 := hide (show mapE (decGE false) L = preE [] (mapE (decGE false) (L.drop 0)) by rw [List.drop_zero, preE_nil])
      clear hbase
      go_wp2_with fail
      go_loopw [7, 28] (fun v i wr => ∃ (k : Nat) (l : List Gen) (S : Nat → Prop), k ≤ L.length ∧ l.length = k ∧ i = .int .i64 k ∧ Below wL.heap.size wL wr ∧ base ≤ wr.heap.size ∧ Own RGen 3 26 wr base S v l ∧
        (∀ j, S j → base ≤ j ∧ j < wr.heap.size) ∧ MedGs l ∧ Hid (mapE (decGE false) L = preE l (mapE (decGE false) (L.drop k)))) (fun _ i _ => L.length - (intOf i).toNat)
      case atStart => exact ⟨0, [], No, by omega, rfl, rfl, Below.refl _ _, hgs0, Own.nil _ _ _ _ _ _, fun j h => h.elim, (fun x hx => by cases hx), H0⟩
      case round =>
        obtain ⟨k, l, S, hk, hlk, rfl, hbr, hgs, hown, hS, hsm, H⟩ := hrel
        have HLK := hide hlk
        have hlk2 : l.length ≤ k := by omega
        obtain ⟨A6, c6, hv6⟩ := (hown.sl RGen.ok).shape
        subst hv6
        have HBR := hide hbr
        have HOWN := hide hown
        have HS := hide hS
        have HSM := hide hsm
        have HB := hide (HBL.out.trans (hbr.mono HBL.out.size))
        clear hlk hown hS hsm
        by_cases hlt : k < L.length
        · obtain ⟨b, off, hA, hbS, e0, e1, e2⟩ := HSL.out.eltAt hlt
          subst hA
          have hcl2 := HML.out k hlt
          have HPS := hide (fun (x : Gen) (h : decGE false L[k] = .ok x) => H.out.trans (preE_at hlt h))
          have HPN := hide (fun (e : Int) (h : decGE false L[k] = .error e) => H.out.trans (preE_err hlt h))
          obtain ⟨⟨et, ec, er⟩, hel⟩ : ∃ e, L[k] = e := ⟨_, rfl⟩
          rw [hel] at e0 e1 e2 hcl2 HPS HPN
          simp only at e0 e1 e2 hcl2
          obtain ⟨z1, hz1⟩ : ∃ x : ByteArray, x = ⟨ec.toArray⟩ := ⟨_, rfl⟩
          obtain ⟨z2, hz2⟩ : ∃ x : ByteArray, x = ⟨er.toArray⟩ := ⟨_, rfl⟩
          have hz1d : ec = z1.data.toList := by rw [hz1]
          have hz2d : er = z2.data.toList := by rw [hz2]
          rw [← hz1] at e1
          rw [← hz2] at e2
          rw [hz1d] at hcl2
          rw [size_string] at hcl2
          rw [hz1d, hz2d] at HPS HPN
          obtain ⟨o, ho⟩ : ∃ o, decGE false (et, z1.data.toList, z2.data.toList) = o := ⟨_, rfl⟩
          rw [ho] at HPS HPN
          have HOD := hide (show decG (et : Int) z1.data.toList false = o from ho)
          have hbM : b < wL.heap.size := hbS
          have p0 := (hbr.cell (p := ⟨b, off + k * 3, none⟩) hbM).trans e0
          have p1 := (hbr.cell (p := ⟨b, off + k * 3 + 1, none⟩) hbM).trans e1
          have p2 := (hbr.cell (p := ⟨b, off + k * 3 + 2, none⟩) hbM).trans e2
          clear e0 e1 e2 hz1 hz2 hel hz1d hz2d ho hbr hbS hbM
          obtain ⟨wo, rfl⟩ : ∃ wo : World, wo = wr := ⟨_, rfl⟩
          go_upto_region 11 with fail
          obtain ⟨wB, hwB⟩ : ∃ W, W = wo.alloc (.cells #[.int .i64 (et : Int), .string z1, .string z2] 45) := ⟨_, rfl⟩
          have q0 : wB.cell? ⟨wo.heap.size, 0, none⟩ = some (.int .i64 (et : Int)) := by rw [hwB, World.cell?_alloc_new]; rfl
          have q1 : wB.cell? ⟨wo.heap.size, 1, none⟩ = some (.string z1) := by rw [hwB, World.cell?_alloc_new]; rfl
          have q2 : wB.cell? ⟨wo.heap.size, 2, none⟩ = some (.string z2) := by rw [hwB, World.cell?_alloc_new]; rfl
          have HBB := hide (show Below wo.heap.size wo wB by rw [hwB]; exact (Below.refl _ _).alloc (Nat.le_refl _) _)
          have hzB : wB.heap.size = wo.heap.size + 1 := by rw [hwB]; simp
          rw [← hwB]
          clear hwB p0 p1 p2
          obtain ⟨gx, hgx⟩ : ∃ g, wo.heap.size = g := ⟨_, rfl⟩
          have HGX := hide hgx
          rw [hgx] at q0 q1 q2 ⊢
          clear hgx
          have HBW := hide (HB.out.trans (HBB.out.mono HB.out.size))
          go_wp2_with fail
          refine (gDecode_any (et : Int) z1 z2 false (by omega) _ (HMX.out.below HBW.out) (HTB.out.below HBW.out)).mono ?_
          rintro e w5 ⟨t5, A5, c5, rfl, ht5, hsl5, hb5, hmed5⟩
          rw [HOD.out] at ht5 hsl5 hmed5 ⊢
          have hsz5 := hb5.size
          clear q0 q1 q2
          go_upto_region 12 with fail
          cases o with
          | error k9 =>
            have hk9 : k9 ≠ 0 := fun h => decG_err0 (h ▸ HOD.out)
            have ht : (k9 != 0) = true := by simpa using hk9
            have HN := hide (show r = .error k9 by rw [HR.out, HPN.out k9 rfl])
            have HB5 := hide (HBW.out.trans (hb5.mono HBW.out.size))
            rw [show toG (.error k9) = (k9, (0, [], [])) from rfl] at ht5 ⊢
            have HB6 := hide (HB5.out.alloc HB5.out.size (.cells #[.int .i64 0, .string t5, .slice A5 0 c5] 26))
            clear hk9 hb5 hsl5 hmed5 ht5
            go_wp2_with fail
            go_ret2
            exact DecLPost.err HN.out rfl HB6.out
          | ok gg =>
            obtain ⟨kb, tb, nb⟩ := gg
            rw [show toG (.ok (kb, tb, nb)) = (0, (kb, tb, nb)) from rfl] at ht5 hsl5 hmed5 ⊢
            simp only at ht5 hsl5 hmed5 ⊢
            subst ht5
            obtain ⟨wG, hwG⟩ : ∃ W, W = w5.alloc (.cells #[.int .i64 kb, .string t5, .slice A5 nb.length c5] 26) := ⟨_, rfl⟩
            obtain ⟨g0, g1, g2⟩ := gen_cells9 hwG
            have hb5 : Below wB.heap.size wB wG := by rw [hwG]; exact hb5.alloc hb5.size _
            have hzG : wG.heap.size = w5.heap.size + 1 := by rw [hwG]; simp
            have hsl5 : Sl RRdn 1 wG (Btw wB.heap.size wG.heap.size) nb [.slice A5 nb.length c5] := (Sl.ok RRdn.ok).mono hsl5 (fun j hj => by rw [hwG]; exact Below.heap_alloc _ _ j hj.2) (fun j hj => ⟨hj.1, by have := hj.2; omega⟩)
            rw [← hwG]
            clear hwG
            have HMED := hide hmed5
            have HY := hide (show mapE (decGE false) L = preE (l ++ [(kb, t5.data.toList, nb)]) (mapE (decGE false) (L.drop (k + 1))) from HPS.out _ rfl)
            obtain ⟨S', hc1, hc2, hc3⟩ := gen_step (k := kb) (t := t5) HOWN.out HS.out hgs HBB.out hb5 hsl5
            have HB5 := hide (HBW.out.trans (hb5.mono HBW.out.size))
            have HB5r := hide (HBR.out.trans ((HBB.out.trans (hb5.mono HBB.out.size)).mono HBR.out.size))
            have hbG9 : base ≤ wG.heap.size := by omega
            clear hsl5 hb5 hmed5 hzG
            go_wp2_with (at_builtin; refine wpList_app RGen.ok _ rfl (.tmp 40) (.tmp 42) 34 rfl base 26 (.agg #[.int .i64 0, .string ⟨#[]⟩, .slice none 0 0]) 48 Tryz.underlying34 info_gen rfl (by decide) S' _ l rfl hc1 ⟨_, 0, none⟩ 1 1 [(kb, t5.data.toList, nb)] rfl rfl hc2 (fun b hb => (hc3 b hb).2) (by simp; omega) (by simp [maxLen]; omega) (by simp; omega) ?_; intro v6 w6 hown6 hgr6 hb6 hat6; have hsz6 := hb6.size; simp at hsz6)
            have hsz7 : wG.heap.size + 1 ≤ w6.heap.size := by simpa using hsz6
            go_roundw
            case rel => exact ⟨k + 1, l ++ [(kb, t5.data.toList, nb)], S', by omega, by simp [HLK.out], by go_num, (HB5r.out.alloc HB5r.out.size _).trans (HBASE.out ▸ hb6), by omega, hown6, fun j hj => ⟨(hc3 j hj).1, by have := (hc3 j hj).2; simp at this; omega⟩, (fun x hx => by
              rcases List.mem_append.1 hx with hx | hx
              · exact HSM.out x hx
              · simp at hx; subst hx; exact HMED.out), HY⟩
            case measure => simp [intOf]; omega
        · have HP := hide (show r = .ok l by rw [HR.out, H.out, List.drop_of_length_le (by omega)]; simp [preE, mapE])
          have hsl := (Sl.ok RGen.ok).mono (HOWN.out.sl RGen.ok) (fun _ _ => rfl) (S' := Lt wr.heap.size) (fun j hj => by rcases hj with hj | hj; exact (HS.out j hj).2; exact hj.2)
          have HSLv := hide hsl
          clear hsl hbr
          go_wp2_with fail
          go_ret2
          exact DecLPost.ok HP.out rfl HSLv.out HB.out HSM.out
    · have htq : (q != 0) = true := by simp [hq0]
      have HN := hide (show r = .error q by rw [HRO.out, decLL, if_neg (by rw [HQ0.out]; exact hq0), HQ0.out])
      clear hq0
      go_wp2_with fail
      go_ret2
      exact DecLPost.err HN.out rfl HBL.out
end Go.Proofs.YtmgnihmjjijdoaaGreatDoor
