/- The reference's EncodeName. -/
import Derived.Test.YtmgnihmjjijdoaaGreatDoorGLibI
import Derived.Test.YtmgnihmjjijdoaaGreatDoorGSplit
import Derived.Shelf.Sort.Plain
import Derived.Test.YtmgnihmjjijdoaaGreatDoorGNamR
import Derived.Test.YtmgnihmjjijdoaaGreatDoorGNamD
import Derived.Test.YtmgnihmjjijdoaaGreatDoorGNamY
import Derived.Test.YtmgnihmjjijdoaaGreatDoorGTlvJ
namespace Go.Proofs.YtmgnihmjjijdoaaGreatDoor
open Go.RowKit
end Go.Proofs.YtmgnihmjjijdoaaGreatDoor
namespace Go.Proofs.YtmgnihmjjijdoaaGreatDoor
open Go.RowKit
set_option maxRecDepth 100000 in
set_option maxHeartbeats 4000000 in
theorem encAttr_any (t v : ByteArray) (kd : Int) (hok : okA (t.data.toList, kd, v.data.toList)) (E : ByteArray) (hE : E = ⟨(encA (t.data.toList, kd, v.data.toList)).toArray⟩) (w : World) (hmx : Mx w) :
  Calls Tryz.prog 63 #[.agg #[.string t, .int .i64 kd, .string v]] w fun e w' => e = .returned (.tuple #[.string E, .int .i64 0]) ∧ Below w.heap.size w w' := by
 have HMX := hide hmx
 obtain ⟨W0, hW0⟩ : ∃ W, W = w.alloc (.cells #[.string t, .int .i64 kd, .string v] 84) := ⟨_, rfl⟩
 have hAB : AtB w.heap.size t kd v W0 := by rw [hW0]; exact AtB.new w _ _ _
 have HB0 := hide (show Below w.heap.size w W0 by rw [hW0]; exact (Below.refl _ _).alloc (Nat.le_refl _) _)
 have HAB := hide hAB
 obtain ⟨c, hc, hcl⟩ := encP_valid hok.1
 have hts : t.size ≤ 1000 := by rw [← size_string]; exact valid_len hok.1
 have hvs : v.size ≤ 64 := by rw [← size_string]; exact hok.2.2.2
 obtain ⟨C, hC⟩ : ∃ C : ByteArray, C = ⟨c.toArray⟩ := ⟨_, rfl⟩
 have hCs : C.size ≤ 1000 := by rw [hC, ba_mk]; exact hcl
 have HEN := hide (show encR (encP t.data.toList) = .tuple #[.string C, .int .i64 0] by rw [hc, hC]; rfl)
 obtain ⟨x, hx⟩ : ∃ x : ByteArray, x = ⟨(wrapW 6 C.data.toList).toArray⟩ := ⟨_, rfl⟩
 have hxs : x.size ≤ 1005 := by
  rw [hx, ba_mk, wrapW_len]
  have := lenB_le C.data.toList.length
  rw [size_string] at *
  omega
 obtain ⟨y, hy⟩ : ∃ y : ByteArray, y = ⟨(wrapW kd.toNat v.data.toList).toArray⟩ := ⟨_, rfl⟩
 have hys : y.size ≤ 70 := by
  rw [hy, ba_mk, wrapW_len]
  have := lenB_le v.data.toList.length
  rw [size_string] at *
  omega
 obtain ⟨k1, k2, k3⟩ := kind_nat hok
 simp only at k1 k2 k3
 have HW6 := hide (show ∀ W : World, Calls Tryz.prog 46 #[.int .i64 6, .slice (some ⟨W.heap.size, 0, none⟩) 1 1] (W.alloc (.cells #[.string C] 9)) fun e9 w' => e9 = .returned (.tuple #[.string x, .int .i64 0]) ∧ Below W.heap.size W w' from fun W => by
  have := wrap_one 6 (by omega) (by omega) C (by omega) _ (wrapF_one (t := 6) (x := C) (by omega)) W
  rw [wrapR, ← hx] at this
  exact this)
 have HWK := hide (show ∀ W : World, Calls Tryz.prog 46 #[.int .i64 kd, .slice (some ⟨W.heap.size, 0, none⟩) 1 1] (W.alloc (.cells #[.string v] 9)) fun e9 w' => e9 = .returned (.tuple #[.string y, .int .i64 0]) ∧ Below W.heap.size W w' from fun W => by
  have := wrap_one kd.toNat k1 k2 v (by omega) _ (wrapF_one (t := kd.toNat) (x := v) (by omega)) W
  rw [wrapR, ← hy, k3] at this
  exact this)
 have HW48 := hide (show ∀ W : World, Calls Tryz.prog 46 #[.int .i64 48, .slice (some ⟨W.heap.size, 0, none⟩) 2 2] (W.alloc (.cells #[.string x, .string y] 9)) fun e9 w' => e9 = .returned (.tuple #[.string E, .int .i64 0]) ∧ Below W.heap.size W w' from fun W => by
  have := wrap_two 48 (by omega) (by omega) x y (by omega) (by omega) _ (wrapF_two (t := 48) (x := x) (y := y) (by omega)) W
  have hee : (⟨(wrapW 48 (x.data.toList ++ y.data.toList)).toArray⟩ : ByteArray) = E := by
   rw [hE, hx, hy, hC, encA, idW]
   simp only [hc, Option.getD_some]
  rw [wrapR, hee] at this
  exact this)
 obtain ⟨c0, c1, c2, -, -, -⟩ := hAB.facts
 clear hmx hok hAB hc hcl hC hCs hx hxs hy hys k1 k2 k3 hE hvs
 go_enter Tryz.func63, Tryz.ntmps63
 go_upto_region 1 with fail
 rw [← hW0]
 clear hW0
 go_wp2_with fail
 refine (Encode_any t (by omega) _ (HMX.out.below HB0.out)).mono ?_
 rintro e w1 ⟨rfl, hb1⟩
 rw [HEN.out]
 have HB1 := hide (HB0.out.trans (hb1.mono HB0.out.size))
 have HA1 := hide (HAB.out.below hb1)
 clear hb1 c0 c1 c2
 go_wp2_with fail
 refine (HW6.out _).mono ?_
 rintro e w2 ⟨rfl, hb2⟩
 have HB2 := hide (HB1.out.trans (hb2.mono HB1.out.size))
 have HA2 := hide (HA1.out.below hb2)
 clear hb2
 obtain ⟨c0, c1, c2, -, -, -⟩ := HA2.out.facts
 go_wp2_with fail
 refine (HWK.out _).mono ?_
 rintro e w3 ⟨rfl, hb3⟩
 have HB3 := hide (HB2.out.trans (hb3.mono HB2.out.size))
 clear hb3 c0 c1 c2
 go_wp2_with fail
 refine (HW48.out _).mono ?_
 rintro e w4 ⟨rfl, hb4⟩
 have HB4 := hide (HB3.out.trans (hb4.mono HB3.out.size))
 clear hb4
 go_wp2_with fail
 go_ret2
 exact ⟨rfl, HB4.out⟩
theorem sort_any (xs : List (List UInt8)) (hne : xs ≠ []) (v : Value) (T : TypeId) (base : Nat) (w : World) (h : Own RStr 1 T w base No v xs) (hlen : xs.length ≤ 1000000) :
    Calls Tryz.prog 130 #[v] w fun e w' => e = .returned (.tuple #[]) ∧ Sl RStr 1 w' (Lt w'.heap.size) (ordF xs) [v] ∧ Below base w w' := by
  have h0 : 0 < xs.length := List.length_pos_iff.2 hne
  obtain ⟨g, cap, ys0, hv, hbg, hgl, hnc, hcm, -, -, hfr⟩ := h.at_ h0
  have hH : Sort.Holds encStr w g 0 xs.toArray := fun j hj => by
    have hj' : j < xs.length := by simpa using hj
    obtain ⟨g', cap', ys, hv', _, _, _, _, hr, hcell, _⟩ := h.at_ hj'
    rw [hv] at hv'
    cases hv'
    have hr' : ys = strC xs[j] := hr
    subst hr'
    have hc := hcell 0 _ rfl
    rw [Nat.mul_one, Nat.add_zero] at hc
    refine ⟨?_, hfr _⟩
    rw [Nat.zero_add, hc, getElem!_pos xs.toArray j hj]
    simp
  subst hv
  refine (Tryz.sort_Strings g 0 cap xs w hH hgl (by omega)).mono ?_
  rintro e w' ⟨rfl, n, os, rfl⟩
  have hso : (xs.mergeSort fun x y => decide (x ≤ y)) = ordF xs := rfl
  rw [hso]
  have hol : (ordF xs).length = xs.length := (ordF_perm xs).length_eq
  have hsz : (Sort.putRow encStr (Sort.ahead w n) g 0 (ordF xs).toArray).heap.size = w.heap.size := by simp [Sort.putRow, Sort.mapBlock, Sort.ahead]
  have hgs : (Sort.grow (Sort.putRow encStr (Sort.ahead w n) g 0 (ordF xs).toArray) os).heap.size = w.heap.size + os.size := by simp [Sort.grow, hsz]
  refine ⟨rfl, ⟨_, cap, by rw [hol], by rw [hol]; exact hnc, hcm, fun _ => ⟨g, 0, rfl, by show g < _; rw [hgs]; omega, fun i x hx => ⟨strC x, rfl, fun j u hu => ?_⟩⟩⟩, ⟨rfl, rfl, rfl, by rw [hgs]; omega, fun k hk => ?_⟩⟩
  · match j, hu with
    | 0, hu =>
      simp [strC] at hu; subst hu
      obtain ⟨hi, rfl⟩ := List.getElem?_eq_some_iff.1 hx
      rw [Nat.mul_one, Nat.add_zero, Sort.cell?_grow _ _ _ (by rw [hsz]; exact hgl), Sort.cell?_putRow encStr _ g 0 xs.toArray (ordF xs).toArray (Sort.holds_ahead _ _ _ _ _ _ hH) (by simp [hol]) i (by simpa using hi), getElem!_pos (ordF xs).toArray i (by simpa using hi)]
      simp
  · have hkg : k ≠ g := by omega
    rw [Sort.heap_grow_old _ _ (by rw [hsz]; omega)]
    simp only [Sort.putRow, Sort.mapBlock, Sort.ahead, Array.getElem?_modify]
    rw [if_neg (fun e => hkg e.symm)]
set_option maxRecDepth 100000 in
set_option maxHeartbeats 4000000 in
theorem Order_any (l : List (List UInt8)) (hne : l ≠ []) (A : Option Addr) (c : Nat) (hl : l.length ≤ 1000) (hsz : (ordF l).flatten.length ≤ 1000000) (z : ByteArray) (hz : z = ⟨(ordF l).flatten.toArray⟩) (w : World) (h : Sl RStr 1 w (Lt w.heap.size) l [.slice A l.length c]) :
  Calls Tryz.prog 87 #[.slice A l.length c] w fun e w' => e = .returned (.string z) ∧ Below w.heap.size w w' := by
 have K := hide h
 have HSZ := hide hsz
 have HZ := hide hz
 have HNE := hide hne
 have hml : (ordF l).length = l.length := (ordF_perm l).length_eq
 have HML := hide hml
 clear h hsz hz hne hml
 go_enter Tryz.func87, Tryz.ntmps87
 go_wp2_with (at_builtin; refine wpList_copy RStr.ok _ rfl (.const (.slice none 0 0)) (.tmp 4) 38 rfl w.heap.size 9 (.string ⟨#[]⟩) 16 Tryz.underlying38 info_str rfl (by decide) (Lt w.heap.size) No (fun _ _ h => h) rfl A c l rfl K.out (no_lt _) (by omega) (Nat.le_refl _) ?_; intro v1 w1 hown1 hb1 hat1; obtain ⟨A1, c1, hv1⟩ := (hown1.sl RStr.ok).shape; subst hv1)
 have HSRT := hide (sort_any l HNE.out (.slice A1 l.length c1) 9 w.heap.size w1 hown1 (by omega))
 have HB1 := hide hb1
 clear hown1 hb1 hat1
 go_wp2_with fail
 refine HSRT.out.mono ?_
 rintro e w2 ⟨rfl, hsl2, hb2⟩
 have HB2 := hide (HB1.out.trans hb2)
 have HJ := hide (show Calls Tryz.prog 67 #[.slice A1 l.length c1, .string ⟨#[]⟩] w2 fun e w' => e = .returned (.string z) ∧ Below w2.heap.size w2 w' by
  have hs3 : Sl RStr 1 w2 (Lt w2.heap.size) (ordF l) [.slice A1 (ordF l).length c1] := by rw [HML.out]; exact hsl2
  have := Join_flat A1 (ordF l) c1 w2 (Lt w2.heap.size) (fun _ h => h) hs3 (by rw [HML.out]; omega) (by have := HSZ.out; omega)
  rw [HML.out, ← HZ.out] at this
  exact this)
 clear hsl2 hb2
 go_wp2_with fail
 refine HJ.out.mono ?_
 rintro e w3 ⟨rfl, hb3⟩
 have HB3 := hide (HB2.out.trans (hb3.mono HB2.out.size))
 clear hb3
 go_wp2_with fail
 go_ret
 exact ⟨rfl, HB3.out⟩
end Go.Proofs.YtmgnihmjjijdoaaGreatDoor
namespace Go.Proofs.YtmgnihmjjijdoaaGreatDoor
open Go.RowKit
theorem news_s1 (w : World) (S : Nat → Prop) (t : TypeId) (x : ByteArray) :
  ∀ i y, [x.data.toList][i]? = some y → ∃ cs, RStr (w.alloc (.cells #[.string x] t)) S y cs ∧ ∀ j u, cs[j]? = some u → (w.alloc (.cells #[.string x] t)).cell? ((⟨w.heap.size, 0, none⟩ : Addr).add (i * 1 + j)) = some u :=
 news_pu (f := strC) (size := 1) (fun _ => rfl) w S _ t _ rfl
theorem map_step {α β : Type} (f : α → β) (l : List α) (k : Nat) (h : k < l.length) {y : β} (hy : f l[k] = y) : (l.take (k + 1)).map f = (l.take k).map f ++ [y] := by
 rw [List.take_succ_eq_append_getElem h, List.map_append, List.map_cons, List.map_nil, hy]
set_option maxRecDepth 100000 in
set_option maxHeartbeats 16000000 in
theorem NEncode_any (n : Name) (A : Option Addr) (c : Nat) (w : World) (hmx : Mx w) (h : Sl RRdn 1 w (Lt w.heap.size) n [.slice A n.length c]) (hsm : SmallN n) :
  Calls Tryz.prog 47 #[.agg #[.slice A n.length c]] w fun e w' => e = .returned (wrapR (encN n)) ∧ Below w.heap.size w w' := by
 have HMX := hide hmx
 have K := hide h
 have HSM := hide hsm
 obtain ⟨o, ho⟩ : ∃ o, encN n = o := ⟨_, rfl⟩
 rw [ho]
 have HO := hide ho
 obtain ⟨W0, hW0⟩ : ∃ W, W = w.alloc (.cells #[.slice A n.length c] 24) := ⟨_, rfl⟩
 have hnb : NB w.heap.size (.slice A n.length c) W0 := by rw [hW0]; exact heap_alloc_new w _
 have hb0 : Below w.heap.size w W0 := by rw [hW0]; exact (Below.refl _ _).alloc (Nat.le_refl _) _
 have HNB := hide hnb
 have HB0 := hide hb0
 have HS0 := hide ((Sl.ok RRdn.ok).below h hb0)
 obtain ⟨c0, -⟩ := hnb.facts
 obtain ⟨q, hq⟩ : ∃ q, chkN n = q := ⟨_, rfl⟩
 have HQ := hide hq
 clear hmx h hsm ho hnb hb0 hq
 go_enter Tryz.func47, Tryz.ntmps47
 go_upto_region 1 with fail
 rw [← hW0]
 clear hW0
 go_wp2_with fail
 refine (Check_any n A c _ (HMX.out.below HB0.out) HS0.out HSM.out).mono ?_
 rintro e w1 ⟨rfl, hb1⟩
 rw [HQ.out]
 have HB1 := hide (HB0.out.trans (hb1.mono HB0.out.size))
 have HN1 := hide (HNB.out.below hb1)
 clear hb1 c0
 by_cases hq0 : q = 0
 ·subst hq0
  have HE := hide (show o = (encB n, 0) by rw [← HO.out, encN, if_pos HQ.out])
  have HOK := hide ((chkN_iff n).1 HQ.out).2
  have hn8 : n.length ≤ 8 := ((chkN_iff n).1 HQ.out).1
  obtain ⟨c0, -⟩ := HN1.out.facts
  obtain ⟨base, hbase⟩ : ∃ b, b = w1.heap.size := ⟨_, rfl⟩
  have hgs0 : base ≤ w1.heap.size := by omega
  have hbw : w.heap.size ≤ base := by have := HB1.out.size; omega
  clear hbase
  go_wp2_with fail
  go_loopw [5, 23] (fun v i wr => ∃ (k : Nat) (sets : List (List UInt8)), k ≤ n.length ∧ i = .int .i64 k ∧ sets.length = k ∧ Own RStr 1 9 wr base No v sets ∧ Below w.heap.size w wr ∧ base ≤ wr.heap.size ∧ Hid (sets = (n.take k).map encQ)) (fun _ i _ => n.length - (intOf i).toNat)
  case atStart => exact ⟨0, [], by omega, rfl, rfl, Own.nil _ _ _ _ _ _, HB1.out, hgs0, hide (by simp)⟩
  case round =>
   obtain ⟨k, sets, hk, rfl, hsl0, hown, hb, hgs, HSETS⟩ := hrel
   have HB := hide hb
   have HOWN := hide hown
   have HLK := hide hsl0
   by_cases hlt : k < n.length
   ·obtain ⟨b, off, A2, c2, hA, hbS, d0, hsl⟩ := K.out.rdnAt hlt
    subst hA
    have hokr := HOK.out n[k] (List.getElem_mem hlt)
    have p0 := (hb.cell (p := ⟨b, off + k, none⟩) hbS).trans d0
    obtain ⟨r, hr⟩ : ∃ r, n[k] = r := ⟨_, rfl⟩
    have HR := hide hr
    have hslr := (Sl.ok RAttr.ok).below hsl hb
    rw [hr] at p0 hokr hslr
    have HSLR := hide hslr
    have HOKR := hide hokr
    have hr4 : r.length ≤ 4 := hokr.2.1
    obtain ⟨A5, c5, hv5⟩ := (hown.sl RStr.ok).shape
    subst hv5
    have hs8 : sets.length ≤ 8 := by omega
    clear hb d0 hsl hr hokr hslr hown hsl0
    obtain ⟨w0, rfl⟩ : ∃ wo : World, wo = wr := ⟨_, rfl⟩
    obtain ⟨bi, hbi⟩ : ∃ b, b = w0.heap.size := ⟨_, rfl⟩
    have hgi0 : bi ≤ w0.heap.size := by omega
    have HBI := hide hbi
    clear hbi
    go_wp2_with fail
    go_loopw [8, 29] (fun v i wi => ∃ (j : Nat) (out : List (List UInt8)), j ≤ r.length ∧ i = .int .i64 j ∧ out.length = j ∧ Own RStr 1 9 wi bi No v out ∧ Below w0.heap.size w0 wi ∧ bi ≤ wi.heap.size ∧ Hid (out = (r.take j).map encA)) (fun _ i _ => r.length - (intOf i).toNat)
    case atStart => exact ⟨0, [], by omega, rfl, rfl, Own.nil _ _ _ _ _ _, Below.refl _ _, hgi0, hide (by simp)⟩
    case round =>
     obtain ⟨j, out, hj, rfl, hol, hown2, hb2, hgi, HOUT⟩ := hrel
     have HB2 := hide hb2
     have HOWN2 := hide hown2
     have HOL := hide hol
     by_cases hjl : j < r.length
     ·obtain ⟨b3, o3, hA3, hbS3, e0, e1, e2⟩ := HSLR.out.attAt hjl
      subst hA3
      have hoka := HOKR.out.2.2.1 r[j] (List.getElem_mem hjl)
      obtain ⟨⟨at_, kd, av⟩, hel⟩ : ∃ a, r[j] = a := ⟨_, rfl⟩
      have HEL := hide hel
      rw [hel] at e0 e1 e2 hoka
      simp only at e0 e1 e2
      obtain ⟨t, ht⟩ : ∃ x : ByteArray, x = ⟨at_.toArray⟩ := ⟨_, rfl⟩
      obtain ⟨v, hv⟩ : ∃ x : ByteArray, x = ⟨av.toArray⟩ := ⟨_, rfl⟩
      have htd : at_ = t.data.toList := by rw [ht]
      have hvd : av = v.data.toList := by rw [hv]
      rw [← ht] at e0
      rw [← hv] at e2
      rw [htd, hvd] at hoka
      have HOKA := hide hoka
      obtain ⟨E, hE⟩ : ∃ E : ByteArray, E = ⟨(encA (t.data.toList, kd, v.data.toList)).toArray⟩ := ⟨_, rfl⟩
      have HEE := hide hE
      have HSTEP := hide (map_step encA r j hjl (y := E.data.toList) (by rw [hel, htd, hvd, hE]))
      have p1 := (hb2.cell (p := ⟨b3, o3 + j * 3, none⟩) hbS3).trans e0
      have p2 := (hb2.cell (p := ⟨b3, o3 + j * 3 + 1, none⟩) hbS3).trans e1
      have p3 := (hb2.cell (p := ⟨b3, o3 + j * 3 + 2, none⟩) hbS3).trans e2
      obtain ⟨A6, c6, hv6⟩ := (hown2.sl RStr.ok).shape
      subst hv6
      have ho4 : out.length ≤ 4 := by omega
      have hzb := HB.out.size
      clear e0 e1 e2 ht hv hel htd hvd hoka hE hb2 hown2 hol
      obtain ⟨wi, rfl⟩ : ∃ wo : World, wo = wr := ⟨_, rfl⟩
      go_upto_region 12 with fail
      obtain ⟨wB, hwB⟩ : ∃ W, W = wi.alloc (.cells #[.string t, .int .i64 kd, .string v] 84) := ⟨_, rfl⟩
      have hAB : AtB wi.heap.size t kd v wB := by rw [hwB]; exact AtB.new wi _ _ _
      have HBB := hide (show Below wi.heap.size wi wB by rw [hwB]; exact (Below.refl _ _).alloc (Nat.le_refl _) _)
      have HB3 := hide (HB2.out.trans (HBB.out.mono HB2.out.size))
      obtain ⟨gx, hgx⟩ : ∃ g, wi.heap.size = g := ⟨_, rfl⟩
      rw [hgx] at hAB
      obtain ⟨q0, q1, q2, -, -, -⟩ := hAB.facts
      rw [← hwB]
      try rw [hgx]
      clear hwB hAB hgx p1 p2 p3
      go_wp2_with fail
      refine (encAttr_any t v kd HOKA.out E HEE.out _ (HMX.out.below (HB.out.trans (HB3.out.mono HB.out.size)))).mono ?_
      rintro e w5 ⟨rfl, hb5⟩
      have HB5 := hide (HB3.out.trans (hb5.mono HB3.out.size))
      have HO5 := hide (HOWN2.out.below RStr.ok (no_lt _) (HBB.out.trans (hb5.mono HBB.out.size)))
      have hz5 := hb5.size
      have hzB := HBB.out.size
      clear hb5 q0 q1 q2
      go_wp2_with (at_builtin; refine wpList_app RStr.ok _ rfl (.tmp 41) (.tmp 43) 38 rfl bi 9 (.string ⟨#[]⟩) 16 Tryz.underlying38 info_str rfl (by decide) No _ out rfl (HO5.out.alloc RStr.ok (no_lt _) _) ⟨_, 0, none⟩ 1 1 [E.data.toList] rfl rfl (news_s1 _ _ _ E) (no_lt _) (by simp; omega) (by simp [maxLen]; omega) (by simp; omega) ?_; intro v6 w6 hown6 hg6 hb6 hat6; have hsz6 := hb6.size; simp at hsz6)
      go_roundw
      case rel => exact ⟨j + 1, out ++ [E.data.toList], by omega, by go_num, by simp [HOL.out], hown6, (HB5.out.alloc HB5.out.size _).trans (hb6.mono (by rw [← HBI.out]; exact Nat.le_refl _)), by omega, hide (by rw [HSTEP.out, ← HOUT.out])⟩
      case measure => simp [intOf]; omega
     ·have hout2 : out = r.map encA := by
       have := HOUT.out
       rwa [List.take_of_length_le (by omega)] at this
      have HOUT2 := hide hout2
      have hne : out ≠ [] := by
       intro e
       rw [hout2] at e
       have := HOKR.out.1
       exact this (by rw [List.map_eq_nil_iff.1 e]; rfl)
      obtain ⟨z, hz⟩ : ∃ z : ByteArray, z = ⟨(ordF (r.map encA)).flatten.toArray⟩ := ⟨_, rfl⟩
      have hzs : z.size ≤ 4340 := by rw [hz, ba_mk]; exact ord_len HOKR.out
      obtain ⟨x, hx⟩ : ∃ x : ByteArray, x = ⟨(encQ r).toArray⟩ := ⟨_, rfl⟩
      have hxs : x.size ≤ 4345 := by rw [hx, ba_mk]; exact encQ_len HOKR.out
      have HW49 := hide (show ∀ W : World, Calls Tryz.prog 46 #[.int .i64 49, .slice (some ⟨W.heap.size, 0, none⟩) 1 1] (W.alloc (.cells #[.string z] 9)) fun e9 w' => e9 = .returned (.tuple #[.string x, .int .i64 0]) ∧ Below W.heap.size W w' from fun W => by
       have := wrap_one 49 (by omega) (by omega) z (by omega) _ (wrapF_one (t := 49) (x := z) (by omega)) W
       have hee : (⟨(wrapW 49 z.data.toList).toArray⟩ : ByteArray) = x := by rw [hx, hz]; rfl
       rw [wrapR, hee] at this
       exact this)
      have hslO := (Sl.ok RStr.ok).mono (hown2.sl RStr.ok) (S' := Lt wr.heap.size) (fun _ _ => rfl) (fun j hj => by rcases hj with hj | hj; exact hj.elim; exact hj.2)
      obtain ⟨A7, c7, hv7⟩ := hslO.shape
      subst hv7
      have HORD := hide (show Calls Tryz.prog 87 #[.slice A7 out.length c7] wr fun e w' => e = .returned (.string z) ∧ Below wr.heap.size wr w' from Order_any out hne A7 c7 (by omega) (by rw [hout2, ← ba_mk, ← hz]; omega) z (by rw [hout2]; exact hz) wr hslO)
      have HXD := hide (show x.data.toList = encQ r by rw [hx])
      have HBW := hide (HB.out.trans (hb2.mono HB.out.size))
      have HOW := hide (HOWN.out.below RStr.ok (no_lt _) hb2)
      have hzb := hb2.size
      clear hown2 hol hout2 hne hz hx hslO hb2 hzs
      go_wp2_with fail
      refine HORD.out.mono ?_
      rintro e w5 ⟨rfl, hb5⟩
      have HB5 := hide (HBW.out.trans (hb5.mono HBW.out.size))
      have HO5 := hide (HOW.out.below RStr.ok (no_lt _) hb5)
      have hz5 := hb5.size
      clear hb5
      go_wp2_with fail
      refine (HW49.out _).mono ?_
      rintro e w6 ⟨rfl, hb6⟩
      have HB6 := hide (HB5.out.trans (hb6.mono HB5.out.size))
      have HO6 := hide (HO5.out.below RStr.ok (no_lt _) hb6)
      have hz6 := hb6.size
      clear hb6
      go_wp2_with (at_builtin; refine wpList_app RStr.ok _ rfl (.tmp 56) (.tmp 58) 38 rfl base 9 (.string ⟨#[]⟩) 16 Tryz.underlying38 info_str rfl (by decide) No _ sets rfl (HO6.out.alloc RStr.ok (no_lt _) _) ⟨_, 0, none⟩ 1 1 [x.data.toList] rfl rfl (news_s1 _ _ _ x) (no_lt _) (by simp; omega) (by simp [maxLen]; omega) (by simp; omega) ?_; intro v7 w7 hown7 hg7 hb7 hat7; have hsz7 := hb7.size; simp at hsz7)
      go_roundw
      case rel => exact ⟨k + 1, sets ++ [x.data.toList], by omega, by go_num, by simp [HLK.out], hown7, (HB6.out.alloc HB6.out.size _).trans (hb7.mono hbw), by omega, hide (by rw [map_step encQ n k hlt (y := x.data.toList) (by rw [HR.out, HXD.out]), ← HSETS.out])⟩
      case measure => simp [intOf]; omega
   ·have hs8 : sets.length ≤ 8 := by omega
    have hall : sets = n.map encQ := by
     have := HSETS.out
     rwa [List.take_of_length_le (by omega)] at this
    have hlenS : sets.flatten.length ≤ 34760 := by
     rw [hall, ← List.flatMap_def]
     exact encB_len HQ.out
    have hmem : ∀ x ∈ sets, x.length ≤ 1000000000 := fun x hx => by
     rw [hall] at hx
     obtain ⟨r, hr, rfl⟩ := List.mem_map.1 hx
     have := encQ_len (HOK.out r hr)
     omega
    obtain ⟨E, hE⟩ : ∃ E : ByteArray, E = ⟨(encB n).toArray⟩ := ⟨_, rfl⟩
    have hslO := (Sl.ok RStr.ok).mono (hown.sl RStr.ok) (S' := Lt wr.heap.size) (fun _ _ => rfl) (fun j hj => by rcases hj with hj | hj; exact hj.elim; exact hj.2)
    obtain ⟨A7, c7, hv7⟩ := hslO.shape
    subst hv7
    have HW48 := hide (show Calls Tryz.prog 46 #[.int .i64 48, .slice A7 sets.length c7] wr fun e9 w' => e9 = .returned (.tuple #[.string E, .int .i64 0]) ∧ Below wr.heap.size wr w' by
     have := Wrap_any 48 (by omega) (by omega) sets A7 c7 (by omega) hmem wr hslO
     have hee : wrapF 48 sets = (encB n, 0) := by rw [wrapF, if_neg (by omega), hall, ← List.flatMap_def]; rfl
     rw [hee, wrapR, ← hE] at this
     exact this)
    have HEE := hide (show wrapR o = .tuple #[.string E, .int .i64 0] by rw [HE.out, wrapR, hE])
    clear hown hsl0 hall hlenS hmem hE hslO hb
    go_wp2_with fail
    refine HW48.out.mono ?_
    rintro e w7 ⟨rfl, hb7⟩
    have HB7 := hide (HB.out.trans (hb7.mono HB.out.size))
    clear hb7
    go_wp2_with fail
    go_ret2
    exact ⟨by rw [HEE.out]; rfl, HB7.out⟩
 ·have ht : (q != 0) = true := by simp [hq0]
  have HN := hide (show o = ([], q) by rw [← HO.out, encN, if_neg (by rw [HQ.out]; exact hq0), HQ.out])
  clear hq0
  go_wp2_with fail
  go_ret2
  exact ⟨by rw [HN.out]; rfl, HB1.out⟩
end Go.Proofs.YtmgnihmjjijdoaaGreatDoor
namespace Go.Proofs.YtmgnihmjjijdoaaGreatDoor
open Go.RowKit
end Go.Proofs.YtmgnihmjjijdoaaGreatDoor
namespace Go.Proofs.YtmgnihmjjijdoaaGreatDoor
open Go.RowKit
theorem neq_att (ta va : ByteArray) (k : Int) (W : World) : (binOp .neq 84 (.agg #[.string ta, .int .i64 k, .string va]) (.agg #[.string ta, .int .i64 k, .string va])).run Tryz.prog W = .ok (.bool false) W := by
 have h0 := Tryz.underlying9
 have h1 := Tryz.underlying3
 have h2 := Tryz.underlying84
 have hp : Program.stoodInHeld Tryz.prog 84 = false := by kernel_rfl
 have hf : Program.fieldsOf Tryz.prog 84 = _ := rfl
 go_simp
set_option maxRecDepth 100000 in
set_option maxHeartbeats 8000000 in
theorem Exact_same (n : Name) (A B : Option Addr) (c d : Nat) (w : World) (h : Sl RRdn 1 w (Lt w.heap.size) n [.slice A n.length c]) (h2 : Sl RRdn 1 w (Lt w.heap.size) n [.slice B n.length d]) :
  Calls Tryz.prog 45 #[.agg #[.slice A n.length c], .agg #[.slice B n.length d]] w fun e w' => e = .returned (.bool true) ∧ Below w.heap.size w w' := by
 obtain ⟨-, hnc, hcm⟩ := h.len_
 obtain ⟨-, hnc2, hcm2⟩ := h2.len_
 unfold maxLen at hcm hcm2
 have K := hide h
 have K2 := hide h2
 have t0 : ((n.length : Int) != (n.length : Int)) = false := by simp
 clear h h2
 go_enter Tryz.func45, Tryz.ntmps45
 go_wp2_with fail
 obtain ⟨wa, hwa⟩ : ∃ wa, wa = (w.alloc (.cells #[.slice A n.length c] 24)).alloc (.cells #[.slice B n.length d] 24) := ⟨_, rfl⟩
 have ha0 : wa.cell? ⟨w.heap.size, 0, none⟩ = some (.slice A n.length c) := by
  rw [hwa, World.cell?_alloc_lt _ _ _ (by simp), World.cell?_alloc_new]; rfl
 have ha1 : wa.cell? ⟨w.heap.size + 1, 0, none⟩ = some (.slice B n.length d) := by
  rw [hwa, show w.heap.size + 1 = (w.alloc (.cells #[.slice A n.length c] 24)).heap.size by simp, World.cell?_alloc_new]; rfl
 have hba : Below w.heap.size w wa := by rw [hwa]; exact ((Below.refl _ _).alloc (Nat.le_refl _) _).alloc (by simp) _
 rw [← hwa]
 have HA0 := hide ha0
 have HA1 := hide ha1
 have HBA := hide hba
 clear hwa ha0 ha1 hba t0
 go_loopw [17] (fun i wr => ∃ k : Nat, k ≤ n.length ∧ i = .int .i64 k ∧ Below wa.heap.size wa wr) (fun i _ => n.length - (intOf i).toNat)
 case atStart => exact ⟨0, by omega, rfl, Below.refl _ _⟩
 case round =>
  obtain ⟨k, hk, rfl, hb⟩ := hrel
  have hbw := HBA.out.trans (hb.mono HBA.out.size)
  by_cases hlt : k < n.length
  ·obtain ⟨b1, o1, A1, c1, hA, hbS, d1, hsl1⟩ := K.out.rdnAt hlt
   obtain ⟨b2, o2, A2, c2, hA2, hbS2, d2, hsl2⟩ := K2.out.rdnAt hlt
   subst hA hA2
   have hbS' : b1 < w.heap.size := hbS
   have hbS2' : b2 < w.heap.size := hbS2
   obtain ⟨r, hr⟩ : ∃ r, n[k] = r := ⟨_, rfl⟩
   rw [hr] at d1 d2 hsl1 hsl2
   have e0 := cell_grows hb _ _ HA0.out
   have e1 := cell_grows hb _ _ HA1.out
   have e2 := (hbw.cell (p := ⟨b1, o1 + k, none⟩) hbS').trans d1
   have e3 := (hbw.cell (p := ⟨b2, o2 + k, none⟩) hbS2').trans d2
   have t1 : ((r.length : Int) != (r.length : Int)) = false := by simp
   have hk0 : (0 : Int) ≤ (k : Int) := by omega
   have hkn : (k : Int) < (n.length : Int) := by omega
   have S1 := hide hsl1
   have S2 := hide hsl2
   have hm1 := hsl1.len_.2
   have hm2 := hsl2.len_.2
   obtain ⟨hm1, hm1'⟩ := hm1
   obtain ⟨hm2, hm2'⟩ := hm2
   unfold maxLen at hm1' hm2'
   have HB := hide hb
   have E0 := hide e0
   have E1 := hide e1
   have E2 := hide e2
   have E3 := hide e3
   obtain ⟨wo, rfl⟩ : ∃ wo : World, wo = wr := ⟨_, rfl⟩
   clear hr d1 d2 hsl1 hsl2 hb hbw
   go_wp2_with fail
   go_quiet (fail)
   go_wp2_with fail
   clear t1 e0 e1 e2 e3
   go_loopw [39] (fun i wi => ∃ j : Nat, j ≤ r.length ∧ i = .int .i64 j ∧ Below wo.heap.size wo wi) (fun i _ => r.length - (intOf i).toNat)
   case atStart => exact ⟨0, by omega, rfl, below_drewN (Below.refl _ _) _⟩
   case round =>
    obtain ⟨j, hj, rfl, hb⟩ := hrel
    by_cases hjl : j < r.length
    ·obtain ⟨b3, o3, hA3, hbS3, f0, f1, f2⟩ := attAt_v S1.out hjl
     obtain ⟨b4, o4, hA4, hbS4, g0, g1, g2⟩ := attAt_v S2.out hjl
     subst hA3 hA4
     have hbS3' : b3 < w.heap.size := hbS3
     have hbS4' : b4 < w.heap.size := hbS4
     obtain ⟨ta, va, kk, hrj⟩ : ∃ (ta va : ByteArray) (kk : Int), r[j] = (ta.data.toList, kk, va.data.toList) := ⟨⟨r[j].1.toArray⟩, ⟨r[j].2.2.toArray⟩, r[j].2.1, rfl⟩
     rw [hrj] at f0 f1 f2 g0 g1 g2
     have hbw := HBA.out.trans ((HB.out.trans (hb.mono HB.out.size)).mono HBA.out.size)
     have f0' : wr.cell? ⟨b3, o3 + j * 3, none⟩ = some (.string ta) := (hbw.cell (p := ⟨b3, o3 + j * 3, none⟩) hbS3').trans f0
     have f1' : wr.cell? ⟨b3, o3 + j * 3 + 1, none⟩ = some (.int .i64 kk) := (hbw.cell (p := ⟨b3, o3 + j * 3 + 1, none⟩) hbS3').trans f1
     have f2' : wr.cell? ⟨b3, o3 + j * 3 + 2, none⟩ = some (.string va) := (hbw.cell (p := ⟨b3, o3 + j * 3 + 2, none⟩) hbS3').trans f2
     have g0' : wr.cell? ⟨b4, o4 + j * 3, none⟩ = some (.string ta) := (hbw.cell (p := ⟨b4, o4 + j * 3, none⟩) hbS4').trans g0
     have g1' : wr.cell? ⟨b4, o4 + j * 3 + 1, none⟩ = some (.int .i64 kk) := (hbw.cell (p := ⟨b4, o4 + j * 3 + 1, none⟩) hbS4').trans g1
     have g2' : wr.cell? ⟨b4, o4 + j * 3 + 2, none⟩ = some (.string va) := (hbw.cell (p := ⟨b4, o4 + j * 3 + 2, none⟩) hbS4').trans g2
     have e0 := cell_grows hb _ _ E0.out
     have e1 := cell_grows hb _ _ E1.out
     have e2 := cell_grows hb _ _ E2.out
     have e3 := cell_grows hb _ _ E3.out
     have hj0 : (0 : Int) ≤ (j : Int) := by omega
     have hjr : (j : Int) < (r.length : Int) := by omega
     have hneq := neq_att ta va kk
     have HBI := hide hb
     clear f0 f1 f2 g0 g1 g2 hrj hbw hb
     go_wp2_with fail
     go_quiet (fail)
     go_wp2_with fail
     go_roundw
     case rel => exact ⟨j + 1, by omega, by go_num, below_drewN HBI.out _⟩
     case measure => simp [intOf]; omega
    ·have HBI := hide (HB.out.trans (hb.mono HB.out.size))
     clear hb
     go_wp2_with fail
     go_roundw
     case rel => exact ⟨k + 1, by omega, by go_num, HBI.out⟩
     case measure => simp [intOf]; omega
  ·have HBW := hide hbw
   clear hb hbw
   go_wp2_with fail
   go_ret
   exact ⟨rfl, HBW.out⟩
end Go.Proofs.YtmgnihmjjijdoaaGreatDoor
namespace Go.Proofs.YtmgnihmjjijdoaaGreatDoor
open Go.RowKit
theorem encN_size (n : Name) : (encN n).1.length ≤ 40000 := by
 unfold encN
 by_cases h : chkN n = 0
 ·rw [if_pos h]
  have := encB_len h
  show (wrapW 48 (n.flatMap encQ)).length ≤ _
  rw [wrapW_len]
  have := lenB_le (n.flatMap encQ).length
  omega
 ·rw [if_neg h]; simp
end Go.Proofs.YtmgnihmjjijdoaaGreatDoor
