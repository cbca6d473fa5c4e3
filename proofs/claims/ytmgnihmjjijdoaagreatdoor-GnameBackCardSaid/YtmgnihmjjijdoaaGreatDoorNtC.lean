/- dname.Format. -/
import Derived.Test.YtmgnihmjjijdoaaGreatDoorNtB
import Derived.Test.YtmgnihmjjijdoaaGreatDoorNtA
import Derived.Test.YtmgnihmjjijdoaaGreatDoorGNenI
import Derived.Test.YtmgnihmjjijdoaaGreatDoorGNamD
import Derived.Test.YtmgnihmjjijdoaaGreatDoorGTxtA
namespace Go.Proofs.YtmgnihmjjijdoaaGreatDoor
open Go.RowKit
theorem slot_eqF {a : Act} {ss : List Nat} {val : Nat → Value} {s : Nat} {u v : Value} (h : (putF a ss val).tmps[s]? = some u) (hv : a = putF a ss val) (h2 : a.tmps[s]? = some v) : u = v := by
 rw [← hv, h2] at h
 exact (Option.some.inj h).symm
theorem info_item : (Tryz.prog.info? 97).map (fun i => (i.zero, i.size, i.bytes)) = some (some (.agg #[.string ⟨#[]⟩, .string ⟨#[]⟩]), 2, 32) := by kernel_rfl
def CI (g : Nat) (v : Value) (W : World) : Prop := W.heap[g]? = some (.cells #[v] 90 (0, 0))
theorem CI.facts {g : Nat} {v : Value} {W : World} (h : CI g v W) : W.cell? ⟨g, 0, none⟩ = some v ∧ W.frozen? ⟨g, 0, none⟩ = false := by
 unfold CI at h
 simp [World.cell?, World.frozen?, h]
theorem CI.lt {g : Nat} {v : Value} {W : World} (h : CI g v W) : g < W.heap.size := (Array.getElem?_eq_some_iff.1 h).1
theorem CI.keep {g B : Nat} {v : Value} {W W' : World} (h : CI g v W) (hb : Below B W W') (hg : g < B) : CI g v W' := (hb.block g hg).trans h
theorem CI.store {g : Nat} {v : Value} {W : World} (h : CI g v W) (u : Value) : CI g u (W.setCell ⟨g, 0, none⟩ u) := by
 unfold CI at *
 simp [World.setCell, Array.getElem?_modify, h]
def itemA (a : Attr) : Item := (encA a, fmtA a)
theorem items_sorted {r : List Attr} {l' : List Item} (hok : ∀ a ∈ r, okA a) (hp : l'.Perm (r.map itemA)) (hs : l'.Pairwise (fun x y => ¬ y.1 < x.1)) : l' = (sortR r).map itemA := by
 have hs2 : ((sortR r).map itemA).Pairwise (fun x y => ¬ y.1 < x.1) := by
  rw [List.pairwise_map]
  refine (sortR_pair r).imp fun {a b} h => ?_
  have h' : encA a ≤ encA b := by simpa [leL] using h
  exact List.not_lt.2 h'
 refine List.Perm.eq_of_pairwise (le := fun x y => ¬ y.1 < x.1) (fun x y hx hy h1 h2 => ?_) hs hs2 (hp.trans ((sortR_perm r).map itemA).symm)
 obtain ⟨a, ha, rfl⟩ := List.mem_map.1 (hp.mem_iff.1 hx)
 obtain ⟨b, hb, rfl⟩ := List.mem_map.1 hy
 have e : encA a = encA b := List.le_antisymm (List.not_lt.1 h1) (List.not_lt.1 h2)
 rw [encA_inj (hok a ha) (hok b ((sortR_perm r).mem_iff.1 hb)) e]
theorem wordL_len : ∀ (l : List Short) (t y : List UInt8), (∀ p ∈ l, p.1.length ≤ 1000) → y.length ≤ 1000 → (wordL l t y).length ≤ 1000
  | [], _, _, _, h => h
  | p :: l, t, y, hl, h => by
    rw [wordL]
    refine wordL_len l t _ (fun q hq => hl q (by simp [hq])) ?_
    split
    · exact hl p (by simp)
    · exact h
theorem short_len : ∀ p ∈ shortTab, p.1.length ≤ 1000 := by decide +kernel
theorem escB_len (c : UInt8) : (escB c).length ≤ 3 := by unfold escB; split <;> simp
theorem escBs_len : ∀ l : List UInt8, (l.flatMap escB).length ≤ 3 * l.length
  | [] => by simp
  | c :: l => by
    have h1 := escB_len c
    have h2 := escBs_len l
    rw [List.flatMap_cons, List.length_append, List.length_cons]; omega
theorem fmtA_len {a : Attr} (h : okA a) : (fmtA a).length ≤ 1300 := by
 have h1 : a.1.length ≤ 1000 := valid_len h.1
 have h2 : a.2.2.length ≤ 64 := h.2.2.2
 have h3 := wordL_len shortTab a.1 a.1 short_len h1
 have h4 := escBs_len a.2.2
 rw [fmtA, wordF, List.length_append, List.length_cons]; omega
theorem join_len (c : UInt8) (B : Nat) : ∀ l : List (List UInt8), (∀ x ∈ l, x.length ≤ B) → (Lib.join l [c]).length ≤ l.length * (B + 1)
  | [], _ => by simp [Lib.join]
  | [x], h => by
    rw [Lib.join_one]
    have := h x (by simp)
    simp; omega
  | x :: y :: l, h => by
    have ih := join_len c B (y :: l) (fun z hz => h z (by simp at hz ⊢; exact .inr hz))
    have hx := h x (by simp)
    rw [Lib.join_cons] at ih ⊢
    rw [List.length_append] at ih ⊢
    have e : Lib.joinTail [c] (y :: l) = c :: (y ++ Lib.joinTail [c] l) := by simp [Lib.joinTail]
    rw [e, List.length_cons, List.length_append, List.length_cons, Nat.add_mul]
    simp only [List.length_cons] at ih ⊢
    omega
theorem fmtR_len {r : List Attr} (h4 : r.length ≤ 4) (hok : ∀ a ∈ r, okA a) : (fmtR (sortR r)).length ≤ 5204 := by
 have hp := (sortR_perm r)
 have := join_len 43 1300 ((sortR r).map fmtA) (fun x hx => by
  obtain ⟨a, ha, rfl⟩ := List.mem_map.1 hx
  exact fmtA_len (hok a (hp.mem_iff.1 ha)))
 rw [List.length_map, hp.length_eq] at this
 have h5 : r.length * 1301 ≤ 4 * 1301 := Nat.mul_le_mul_right _ h4
 rw [fmtR]; omega
theorem Join_sep (sep : UInt8) (v : Value) (out : List (List UInt8)) (base : Nat) (w : World) (hown : Own RStr 1 9 w base No v out) (h0 : 0 < out.length) (hN : out.length ≤ 1000000) (hlen : (Lib.join out [sep]).length ≤ 140737488355328) :
  Calls Tryz.prog 67 #[v, .string ⟨#[sep]⟩] w fun e w' => e = .returned (.string ⟨(Lib.join out [sep]).toArray⟩) ∧ Below w.heap.size w w' := by
 obtain ⟨g, cap, ys, hv, hb, hg, hc, hm, hr, hh, _⟩ := hown.at_ h0
 subst hv
 have hmap : (out.map fun (x : List UInt8) => (⟨x.toArray⟩ : ByteArray)).map (·.data.toList) = out := by
  rw [List.map_map]
  exact (List.map_congr_left (fun x _ => rfl)).trans (List.map_id _)
 have hl : (out.map fun (x : List UInt8) => (⟨x.toArray⟩ : ByteArray)).length = out.length := List.length_map _
 have hj : Lib.join ((out.map fun (x : List UInt8) => (⟨x.toArray⟩ : ByteArray)).map (·.data.toList)) (⟨#[sep]⟩ : ByteArray).data.toList = Lib.join out [sep] := by
  rw [hmap]
 have := Tryz.strings_Join g 0 cap (out.map fun (x : List UInt8) => (⟨x.toArray⟩ : ByteArray)) ⟨#[sep]⟩ w (fun j x hx => by
  rw [List.getElem?_map] at hx
  obtain ⟨y, hy, rfl⟩ := Option.map_eq_some_iff.1 hx
  obtain ⟨hi, rfl⟩ := List.getElem?_eq_some_iff.1 hy
  obtain ⟨g', cap', zs, hv', _, _, _, _, hr', hh', _⟩ := hown.at_ hi
  cases hv'
  have e : zs = strC out[j] := hr'
  subst e
  simpa using hh' 0 _ rfl) hg (by rw [hl]; omega) (by rw [hl]; exact hc) (by rw [hj]; exact hlen)
 rw [hl] at this
 refine this.mono fun e w' ⟨he, hw⟩ => ⟨?_, hw⟩
 rw [he, hj]
theorem Join_sep0 (sep : UInt8) (v : Value) (out : List (List UInt8)) (base : Nat) (w : World) (hown : Own RStr 1 9 w base No v out) (hN : out.length ≤ 1000000) (hlen : (Lib.join out [sep]).length ≤ 140737488355328) :
  Calls Tryz.prog 67 #[v, .string ⟨#[sep]⟩] w fun e w' => e = .returned (.string ⟨(Lib.join out [sep]).toArray⟩) ∧ Below w.heap.size w w' := by
 by_cases h0 : 0 < out.length
 ·exact Join_sep sep v out base w hown h0 hN hlen
 ·obtain rfl : out = [] := List.eq_nil_of_length_eq_zero (by omega)
  obtain ⟨A, c, hv⟩ := (hown.sl RStr.ok).shape
  subst hv
  exact (Tryz.strings_Join_none A c ⟨#[sep]⟩ w).mono fun e w' ⟨he, hw⟩ => ⟨he, hw ▸ Below.refl _ _⟩
theorem wordL_at {l : List Short} {m : Nat} {t y : List UInt8} (h : m < l.length) : wordL (l.drop m) t y = wordL (l.drop (m + 1)) t (if l[m].2 = t then l[m].1 else y) := by
 rw [List.drop_eq_getElem_cons h, wordL]
theorem news_item1 {T : TypeId} (w : World) (S : Nat → Prop) (x : ByteArray) :
  ∀ i y, [x.data.toList][i]? = some y → ∃ cs, RStr (w.alloc (.cells #[.string x] T)) S y cs ∧ ∀ j u, cs[j]? = some u → (w.alloc (.cells #[.string x] T)).cell? ((⟨w.heap.size, 0, none⟩ : Addr).add (i * 1 + j)) = some u :=
 news_pu (f := strC) (size := 1) (fun _ => rfl) w S _ T _ rfl
theorem two_str {w W : World} {a b : ByteArray} {T : TypeId} (h : W = w.alloc (.cells #[.string a, .string b] T)) : W.cell? ⟨w.heap.size, 0, none⟩ = some (.string a) ∧ W.cell? ⟨w.heap.size, 1, none⟩ = some (.string b) ∧ Below w.heap.size w W := by
 subst h
 exact ⟨by rw [World.cell?_alloc_new]; rfl, by rw [World.cell?_alloc_new]; rfl, (Below.refl _ _).alloc (Nat.le_refl _) _⟩
structure FmJ (base g8 : Nat) (sv : Value) (ga : Nat) (e y y1 v ev z : ByteArray) (L : List Item) (w0 : World) (dd : Nat → Bool) (val : Nat → Value) (W : World) : Prop where
 fb : dd 10 = false → Below w0.heap.size w0 W
 fb2 : dd 11 = false → Below base w0 W
 v61 : dd 0 = true → val 61 = sv
 v62 : dd 1 = true → val 62 = .string e
 v63 : dd 2 = true → val 63 = .string y
 v64 : dd 3 = true → val 64 = .string y1
 v65 : dd 4 = true → val 65 = .pointer (some ⟨ga, 2, none⟩)
 v66 : dd 5 = true → val 66 = .string v
 v67 : dd 6 = true → val 67 = .string ev
 v68 : dd 7 = true → val 68 = .string z
 v69 : dd 8 = true → val 69 = .agg #[.string e, .string z]
 r70 : dd 9 = true → dd 10 = false → ∃ g, val 70 = .slice (some ⟨g, 0, none⟩) 1 1 ∧ g < W.heap.size ∧ W.cell? ⟨g, 0, none⟩ = some (.string e) ∧ W.cell? ⟨g, 1, none⟩ = some (.string z)
 rA : dd 10 = true → dd 11 = false → Own RItem 2 97 W base No (val 71) (L ++ [(e.data.toList, z.data.toList)])
 fin : dd 11 = true → ∃ Wp v, Below base w0 Wp ∧ Own RItem 2 97 Wp base No (v) (L ++ [(e.data.toList, z.data.toList)]) ∧ W = Wp.setCell ⟨g8, 0, none⟩ v
theorem FmJ.start {base g8 : Nat} {sv : Value} {ga : Nat} {e y y1 v ev z : ByteArray} {L : List Item} {w0 : World} {val : Nat → Value} : FmJ base g8 sv ga e y y1 v ev z L w0 (fun _ => false) val w0.drew :=
 ⟨fun _ => (Below.refl _ _).drew, fun _ => (Below.refl _ _).drew, nofun, nofun, nofun, nofun, nofun, nofun, nofun, nofun, nofun, nofun, nofun, nofun⟩
set_option maxRecDepth 100000 in
set_option maxHeartbeats 16000000 in
theorem Format_any (n : Name) (A : Option Addr) (c : Nat) (w : World) (hmx : Mx w) (h : Sl RRdn 1 w (Lt w.heap.size) n [.slice A n.length c]) (hsm : SmallN n) :
    Calls Tryz.prog 31 #[.agg #[.slice A n.length c]] w fun e w' => e = .returned (wrapR (fmtN n)) ∧ Below w.heap.size w w' := by
  have HMX := hide hmx
  have K := hide h
  have HSM := hide hsm
  obtain ⟨o, ho⟩ : ∃ o, fmtN n = o := ⟨_, rfl⟩
  rw [ho]
  have HO := hide ho
  obtain ⟨W0, hW0⟩ : ∃ W, W = w.alloc (.cells #[.slice A n.length c] 24) := ⟨_, rfl⟩
  have hnb : NB w.heap.size (.slice A n.length c) W0 := by rw [hW0]; exact heap_alloc_new w _
  have hb0 : Below w.heap.size w W0 := by rw [hW0]; exact (Below.refl _ _).alloc (Nat.le_refl _) _
  have HNB := hide hnb
  have HB0 := hide hb0
  have HS0 := hide ((Sl.ok RRdn.ok).below h hb0)
  obtain ⟨c0, -⟩ := hnb.facts
  obtain ⟨q, hq⟩ : ∃ q, chkN n = q := ⟨_, rfl⟩
  have HQ := hide hq
  clear hmx h hsm ho hnb hb0 hq
  go_enter Tryz.func31, Tryz.ntmps31
  go_upto_region 1 with fail
  rw [← hW0]
  clear hW0
  go_wp2_with fail
  refine (Check_any n A c _ (HMX.out.below HB0.out) HS0.out HSM.out).mono ?_
  rintro e w1 ⟨rfl, hb1⟩
  rw [HQ.out]
  have HB1 := hide (HB0.out.trans (hb1.mono HB0.out.size))
  have HN1 := hide (HNB.out.below hb1)
  clear hb1 c0
  by_cases hq0 : q = 0
  · subst hq0
    have HE := hide (show o = (fmtB n, 0) by rw [← HO.out, fmtN, if_pos HQ.out])
    have HOK := hide ((chkN_iff n).1 HQ.out).2
    have hn8 : n.length ≤ 8 := ((chkN_iff n).1 HQ.out).1
    obtain ⟨c0, -⟩ := HN1.out.facts
    obtain ⟨base, hbase⟩ : ∃ b, b = w1.heap.size := ⟨_, rfl⟩
    have hgs0 : base ≤ w1.heap.size := by omega
    have hbw : w.heap.size ≤ base := by have := HB1.out.size; omega
    clear hbase
    go_wp2_with fail
    go_loopw [5, 27] (fun v i wr => ∃ (k : Nat) (out : List (List UInt8)), k ≤ n.length ∧ i = .int .i64 k ∧ out.length = k ∧ Own RStr 1 9 wr base No v out ∧ Below w.heap.size w wr ∧ base ≤ wr.heap.size ∧ Hid (out = (n.take k).map fun r => fmtR (sortR r))) (fun _ i _ => n.length - (intOf i).toNat)
    case atStart => exact ⟨0, [], by omega, rfl, rfl, Own.nil _ _ _ _ _ _, HB1.out, hgs0, hide (by simp)⟩
    case round =>
      obtain ⟨k, out, hk, rfl, hsl0, hown, hb, hgs, HOUT⟩ := hrel
      have HB := hide hb
      have HOWN := hide hown
      have HLK := hide hsl0
      by_cases hlt : k < n.length
      · obtain ⟨b, off, A2, c2, hA, hbS, d0, hsl⟩ := K.out.rdnAt hlt
        subst hA
        have hokr := HOK.out n[k] (List.getElem_mem hlt)
        have p0 := (hb.cell (p := ⟨b, off + k, none⟩) hbS).trans d0
        obtain ⟨r, hr⟩ : ∃ r, n[k] = r := ⟨_, rfl⟩
        have HSTEPK := hide (map_step (fun r => fmtR (sortR r)) n k hlt (y := fmtR (sortR r)) (by rw [hr]))
        have hslr := (Sl.ok RAttr.ok).below hsl hb
        rw [hr] at p0 hokr hslr
        have HOKR := hide hokr
        have hr4 : r.length ≤ 4 := hokr.2.1
        obtain ⟨A5, c5, hv5⟩ := (hown.sl RStr.ok).shape
        subst hv5
        have hs8 : out.length ≤ 8 := by omega
        obtain ⟨w0, rfl⟩ : ∃ wo : World, wo = wr := ⟨_, rfl⟩
        obtain ⟨wA, hwA⟩ : ∃ W, W = w0.alloc (.cells #[.slice none 0 0] 90) := ⟨_, rfl⟩
        have hcA : CI w0.heap.size (.slice none 0 0) wA := by rw [hwA]; exact heap_alloc_new w0 _
        have hb0A : Below w0.heap.size w0 wA := by rw [hwA]; exact (Below.refl _ _).alloc (Nat.le_refl _) _
        have hzA : wA.heap.size = w0.heap.size + 1 := by rw [hwA]; simp
        obtain ⟨g8, hg8⟩ : ∃ g, w0.heap.size = g := ⟨_, rfl⟩
        obtain ⟨bi, hbi⟩ : ∃ b, b = wA.heap.size := ⟨_, rfl⟩
        rw [hg8] at hcA
        have HSLR := hide hslr
        have hgi0 : bi ≤ wA.heap.size := by omega
        have hg8b : g8 < bi := by omega
        have hg80 : w0.heap.size ≤ g8 := by omega
        have hbi0 : w0.heap.size ≤ bi := by omega
        have HCA := hide hcA
        have HB0A := hide hb0A
        have HZ0 := hide (show base ≤ w0.heap.size from hgs)
        clear hb d0 hsl hr hokr hslr hown hsl0 hcA hb0A hzA hbi hgs
        go_upto_region 9 with fail
        rw [← hwA]
        try rw [hg8]
        clear hwA hg8 p0
        go_wp2_with fail
        go_loopw [33] (fun i wi => ∃ (j : Nat) (L : List Item) (v : Value), j ≤ r.length ∧ i = .int .i64 j ∧ L.length = j ∧ CI g8 v wi ∧ Own RItem 2 97 wi bi No v L ∧ Below w0.heap.size w0 wi ∧ bi ≤ wi.heap.size ∧ Hid (L = (r.take j).map itemA)) (fun i _ => r.length - (intOf i).toNat)
        case atStart => exact ⟨0, [], _, by omega, rfl, rfl, HCA.out, Own.nil _ _ _ _ _ _, HB0A.out, hgi0, hide (by simp)⟩
        case round =>
          obtain ⟨j, L, vL, hj, rfl, hol, hcL, hownL, hb2, hgi, HLL⟩ := hrel
          have HCL := hide hcL
          have HOWNL := hide hownL
          have HOL := hide hol
          have HB2a := hide hb2
          by_cases hjl : j < r.length
          · obtain ⟨b3, o3, hA3, hbS3, e0, e1, e2⟩ := HSLR.out.attAt hjl
            subst hA3
            have hoka := HOKR.out.2.2.1 r[j] (List.getElem_mem hjl)
            obtain ⟨⟨at_, kd, av⟩, hel⟩ : ∃ a, r[j] = a := ⟨_, rfl⟩
            rw [hel] at e0 e1 e2 hoka
            simp only at e0 e1 e2
            obtain ⟨t, ht⟩ : ∃ x : ByteArray, x = ⟨at_.toArray⟩ := ⟨_, rfl⟩
            obtain ⟨v, hv⟩ : ∃ x : ByteArray, x = ⟨av.toArray⟩ := ⟨_, rfl⟩
            have htd : at_ = t.data.toList := by rw [ht]
            have hvd : av = v.data.toList := by rw [hv]
            rw [← ht] at e0
            rw [← hv] at e2
            rw [htd, hvd] at hoka
            have HOKA := hide hoka
            have hts : t.size ≤ 1000 := by rw [← size_string]; exact valid_len hoka.1
            have hvs : v.size ≤ 64 := by rw [← size_string]; exact hoka.2.2.2
            obtain ⟨e, he⟩ : ∃ x : ByteArray, x = ⟨(encA (t.data.toList, kd, v.data.toList)).toArray⟩ := ⟨_, rfl⟩
            obtain ⟨ev, hev⟩ : ∃ x : ByteArray, x = ⟨(v.data.toList.flatMap escB).toArray⟩ := ⟨_, rfl⟩
            have hevs : ev.size ≤ 192 := by
              rw [hev, ba_mk]
              have := escBs_len v.data.toList
              rw [size_string] at this
              omega
            have HES := hide (show ∀ W : World, Calls Tryz.prog 29 #[.string v] W fun e9 w' => e9 = .returned (.string ev) ∧ Below W.heap.size W w' from fun W => hev ▸ Escape_any v (by omega) W)
            have HEE := hide he
            have HEVL := hide (show ev.data.toList = v.data.toList.flatMap escB by rw [hev])
            have HITEM := hide (show itemA r[j] = (e.data.toList, fmtA (t.data.toList, kd, v.data.toList)) by rw [hel, htd, hvd, he, itemA])
            have p1 := (hb2.cell (p := ⟨b3, o3 + j * 3, none⟩) hbS3).trans e0
            have p2 := (hb2.cell (p := ⟨b3, o3 + j * 3 + 1, none⟩) hbS3).trans e1
            have p3 := (hb2.cell (p := ⟨b3, o3 + j * 3 + 2, none⟩) hbS3).trans e2
            obtain ⟨A6, c6, hv6⟩ := (hownL.sl RItem.ok).shape
            subst hv6
            have ho4 : L.length ≤ 4 := by omega
            have hzb := HB.out.size
            clear e0 e1 e2 ht hv hel htd hvd hoka he hev hb2 hcL hownL hol
            obtain ⟨wi, rfl⟩ : ∃ wo : World, wo = wr := ⟨_, rfl⟩
            go_upto_region 12 with fail
            obtain ⟨wB, hwB⟩ : ∃ W, W = wi.alloc (.cells #[.string t, .int .i64 kd, .string v] 84) := ⟨_, rfl⟩
            have hAB : AtB wi.heap.size t kd v wB := by rw [hwB]; exact AtB.new wi _ _ _
            have HBB := hide (show Below wi.heap.size wi wB by rw [hwB]; exact (Below.refl _ _).alloc (Nat.le_refl _) _)
            obtain ⟨ga, hga⟩ : ∃ g, wi.heap.size = g := ⟨_, rfl⟩
            rw [hga] at hAB
            obtain ⟨q0, q1, q2, -, -, -⟩ := hAB.facts
            have HAB := hide hAB
            have HB3 := hide (HB2a.out.trans (HBB.out.mono HB2a.out.size))
            rw [← hwB]
            try rw [hga]
            clear hwB hAB hga p1 p2 p3
            go_wp2_with fail
            refine (encAttr_any t v kd HOKA.out e HEE.out _ (HMX.out.below (HB.out.trans (HB3.out.mono HB.out.size)))).mono ?_
            rintro e9 w5 ⟨rfl, hb5⟩
            have q0 := cell_grows hb5 _ _ q0
            have HAB5 := hide (HAB.out.below hb5)
            have HBi5 := hide (HBB.out.trans (hb5.mono HBB.out.size))
            clear hb5 q1 q2
            go_wp2_with fail
            refine (shorts_any _).mono ?_
            rintro e9 w6 ⟨gs, rfl, hb6, hsl6⟩
            have HAB6 := hide (HAB5.out.below hb6)
            have HBi6 := hide (HBi5.out.trans (hb6.mono HBi5.out.size))
            have HSL6 := hide hsl6
            clear hb6 hsl6 q0
            go_wp2_with fail
            go_loopw [13, 49] (fun wv i wj => ∃ (m : Nat) (y : ByteArray), m ≤ 7 ∧ i = .int .i64 m ∧ wv = .string y ∧ y.size ≤ 1000 ∧ Below w6.heap.size w6 wj ∧ Hid (wordL (shortTab.drop m) t.data.toList y.data.toList = wordF t.data.toList)) (fun _ i _ => 7 - (intOf i).toNat)
            case atStart => exact ⟨0, t, by omega, rfl, rfl, hts, Below.refl _ _, hide rfl⟩
            case round =>
              obtain ⟨m, y, hm, rfl, rfl, hys, hb7, HY⟩ := hrel
              have HB7 := hide hb7
              have HAB7 := hide (HAB6.out.below hb7)
              obtain ⟨w7, rfl⟩ : ∃ wo : World, wo = wr := ⟨_, rfl⟩
              by_cases hm7 : m < 7
              · have hm7i : (m : Int) < 7 := by omega
                have hml : m < shortTab.length := hm7
                obtain ⟨b9, o9, x9, hA9, hbS9, hr9, hc9⟩ := HSL6.out.at_ hml
                cases hA9
                have hr9' : x9 = shortC shortTab[m] := hr9
                subst hr9'
                obtain ⟨sa, hsa⟩ : ∃ x : ByteArray, x = ⟨shortTab[m].1.toArray⟩ := ⟨_, rfl⟩
                obtain ⟨sb, hsb⟩ : ∃ x : ByteArray, x = ⟨shortTab[m].2.toArray⟩ := ⟨_, rfl⟩
                have hsas : sa.size ≤ 1000 := by rw [hsa, ba_mk]; exact short_len _ (List.getElem_mem hml)
                have d0 : w7.cell? ⟨gs, m * 2, none⟩ = some (.string sa) := by
                  have := hc9 0 _ rfl
                  rw [Nat.zero_add, Nat.add_zero, ← hsa] at this
                  exact (hb7.cell (p := ⟨gs, m * 2, none⟩) hbS9).trans this
                have d1 : w7.cell? ⟨gs, m * 2 + 1, none⟩ = some (.string sb) := by
                  have := hc9 1 _ rfl
                  rw [Nat.zero_add, ← hsb] at this
                  exact (hb7.cell (p := ⟨gs, m * 2 + 1, none⟩) hbS9).trans this
                have HNEXT := hide (show wordL (shortTab.drop (m + 1)) t.data.toList (if sb.data.toList = t.data.toList then sa.data.toList else y.data.toList) = wordF t.data.toList by
                  rw [← HY.out, wordL_at hml, hsa, hsb])
                obtain ⟨w8, hw8⟩ : ∃ W, W = w7.alloc (.cells #[.string sa, .string sb] 95) := ⟨_, rfl⟩
                obtain ⟨i0, i1, hb8⟩ := two_str hw8
                obtain ⟨z0, -, -, -, -, -⟩ := (HAB7.out.below hb8).facts
                have HB8 := hide (HB7.out.trans (hb8.mono HB7.out.size))
                obtain ⟨g7, hg7⟩ : ∃ g, w7.heap.size = g := ⟨_, rfl⟩
                rw [hg7] at i0 i1
                clear hsa hsb hc9 hr9 hbS9 hb7 hb8
                go_upto_region 19 with fail
                rw [← hw8]
                try rw [hg7]
                clear hw8 hg7 d0 d1
                by_cases heq : sb.toList = t.toList
                · have t1 : (sb.toList == t.toList) = true := by simpa using heq
                  have HEQ := hide ((str_eq sb t).1 heq)
                  clear heq
                  go_wp2_with fail
                  go_roundw
                  case rel => exact ⟨m + 1, sa, by omega, by go_num, rfl, hsas, HB8.out, hide (by have := HNEXT.out; rwa [if_pos HEQ.out] at this)⟩
                  case measure => simp [intOf]; omega
                · have t1 : (sb.toList == t.toList) = false := by simpa using heq
                  have HEQ := hide (fun h => heq ((str_eq sb t).2 h))
                  clear heq
                  go_wp2_with fail
                  go_roundw
                  case rel => exact ⟨m + 1, y, by omega, by go_num, rfl, hys, HB8.out, hide (by have := HNEXT.out; rwa [if_neg HEQ.out] at this)⟩
                  case measure => simp [intOf]; omega
              · have hyw : y.data.toList = wordF t.data.toList := by
                  have := HY.out
                  rwa [List.drop_of_length_le (by show 7 ≤ m; omega)] at this
                obtain ⟨y1, hy1⟩ : ∃ x : ByteArray, y ++ ⟨#[61]⟩ = x := ⟨_, rfl⟩
                obtain ⟨z, hz⟩ : ∃ x : ByteArray, y1 ++ ev = x := ⟨_, rfl⟩
                have hy1s : y1.size = y.size + 1 := by rw [← hy1, ba_size]; rfl
                have HN1 := hide (show ¬ 9223372036854775807 < y.size + 1 by omega)
                have HN2 := hide (show ¬ 9223372036854775807 < y1.size + ev.size by omega)
                have HY1 := hide hy1
                have HZ1 := hide hz
                have HSTEP := hide (map_step itemA r j hjl (y := (e.data.toList, z.data.toList)) (by
                  rw [HITEM.out, ← hz, ← hy1, ba_append, ba_append, hyw, HEVL.out, fmtA]
                  simp))
                have HBw := hide (HBi6.out.trans (hb7.mono HBi6.out.size))
                have HOWN2 := hide (HOWNL.out.below RItem.ok (no_lt _) HBw.out)
                have HB2 := hide (HB2a.out.trans (HBw.out.mono HB2a.out.size))
                have hbs1 : w0.heap.size ≤ bi := hbi0
                have hb1 : bi ≤ w7.heap.size := by have := HBw.out.size; omega
                have HC := hide (show ∀ W, Below w7.heap.size w7 W → W.cell? ⟨ga, 2, none⟩ = some (.string v) from fun W hb => ((HAB7.out.below hb).facts.2.2.1))
                have hgiw : bi ≤ wi.heap.size := hgi
                have HC9i := hide (show ∀ W, Below bi w7 W → CI g8 (.slice A6 L.length c6) W from fun W hb => (HCL.out.keep HBw.out (by omega)).keep hb hg8b)
                have HC9 := hide (show ∀ W, Below bi w7 W → W.cell? ⟨g8, 0, none⟩ = some (.slice A6 L.length c6) ∧ W.frozen? ⟨g8, 0, none⟩ = false from fun W hb => (HC9i.out W hb).facts)
                have HC8 := hide (show ∀ W, Below w7.heap.size w7 W → W.cell? ⟨g8, 0, none⟩ = some (.slice A6 L.length c6) ∧ W.frozen? ⟨g8, 0, none⟩ = false from fun W hb => HC9.out W (hb.mono hb1))
                clear hyw hy1 hz hy1s hb7
                go_upto_region 22 with fail
                refine region_inv3 [61, 62, 63, 64, 65, 66, 67, 68, 69, 70, 71] (FmJ bi g8 (.slice A6 L.length c6) ga e y y1 v ev z L w7) (by kernel_rfl) (by kernel_rfl) (fun val hval => FmJ.start) ⟨?_, ?_, ?_, ?_, ?_, ?_, ?_, ?_, ?_, ?_, ?_, ?_, trivial⟩ ?_
                · refine ⟨fun s hs => by cases hs <;> decide, ?_⟩
                  rintro dd val W hJ hd hdep hcl K hK
                  rw [if_pos (by rfl)]
                  dsimp only [putF, List.foldl, Act.put] at hK ⊢
                  simp only [List.setIfInBounds_toArray, List.set_cons_zero, List.set_cons_succ] at hK ⊢
                  have h13 : dd 10 = false := by
                    cases h : dd 10 with
                    | false => rfl
                    | true =>
                      have c10 := h
                      have c0 := hcl 10 _ rfl c10 ⟨0, .data⟩ (by simp) rfl
                      rw [hd] at c0; cases c0
                  have q0 := (HC8.out W (hJ.fb h13)).1
                  go_simp
                  exact hK.out _ _ { fb := hJ.fb, fb2 := hJ.fb2, v61 := fun _ => rfl, v62 := hJ.v62, v63 := hJ.v63, v64 := hJ.v64, v65 := hJ.v65, v66 := hJ.v66, v67 := hJ.v67, v68 := hJ.v68, v69 := hJ.v69, r70 := hJ.r70, rA := hJ.rA, fin := hJ.fin }
                · refine ⟨fun s hs => by cases hs <;> decide, ?_⟩
                  rintro dd val W hJ hd hdep hcl K hK
                  rw [if_pos (by rfl)]
                  dsimp only [putF, List.foldl, Act.put] at hK ⊢
                  simp only [List.setIfInBounds_toArray, List.set_cons_zero, List.set_cons_succ] at hK ⊢
                  go_simp
                  exact hK.out _ _ { fb := hJ.fb, fb2 := hJ.fb2, v61 := hJ.v61, v62 := fun _ => rfl, v63 := hJ.v63, v64 := hJ.v64, v65 := hJ.v65, v66 := hJ.v66, v67 := hJ.v67, v68 := hJ.v68, v69 := hJ.v69, r70 := hJ.r70, rA := hJ.rA, fin := hJ.fin }
                · refine ⟨fun s hs => by cases hs <;> decide, ?_⟩
                  rintro dd val W hJ hd hdep hcl K hK
                  rw [if_pos (by rfl)]
                  dsimp only [putF, List.foldl, Act.put] at hK ⊢
                  simp only [List.setIfInBounds_toArray, List.set_cons_zero, List.set_cons_succ] at hK ⊢
                  go_simp
                  exact hK.out _ _ { fb := hJ.fb, fb2 := hJ.fb2, v61 := hJ.v61, v62 := hJ.v62, v63 := fun _ => rfl, v64 := hJ.v64, v65 := hJ.v65, v66 := hJ.v66, v67 := hJ.v67, v68 := hJ.v68, v69 := hJ.v69, r70 := hJ.r70, rA := hJ.rA, fin := hJ.fin }
                · refine ⟨fun s hs => by cases hs <;> decide, ?_⟩
                  rintro dd val W hJ hd hdep hcl K hK
                  rw [if_pos (by rfl)]
                  dsimp only [putF, List.foldl, Act.put] at hK ⊢
                  simp only [List.setIfInBounds_toArray, List.set_cons_zero, List.set_cons_succ] at hK ⊢
                  have e63 := hJ.v63 (hdep ⟨2, .data⟩ (by simp) rfl)
                  simp only [e63] at hK ⊢
                  have n1 := HN1.out
                  have n2 := HY1.out
                  go_simp
                  exact hK.out _ _ { fb := hJ.fb, fb2 := hJ.fb2, v61 := hJ.v61, v62 := hJ.v62, v63 := hJ.v63, v64 := fun _ => rfl, v65 := hJ.v65, v66 := hJ.v66, v67 := hJ.v67, v68 := hJ.v68, v69 := hJ.v69, r70 := hJ.r70, rA := hJ.rA, fin := hJ.fin }
                · refine ⟨fun s hs => by cases hs <;> decide, ?_⟩
                  rintro dd val W hJ hd hdep hcl K hK
                  rw [if_pos (by rfl)]
                  dsimp only [putF, List.foldl, Act.put] at hK ⊢
                  simp only [List.setIfInBounds_toArray, List.set_cons_zero, List.set_cons_succ] at hK ⊢
                  go_simp
                  exact hK.out _ _ { fb := hJ.fb, fb2 := hJ.fb2, v61 := hJ.v61, v62 := hJ.v62, v63 := hJ.v63, v64 := hJ.v64, v65 := fun _ => rfl, v66 := hJ.v66, v67 := hJ.v67, v68 := hJ.v68, v69 := hJ.v69, r70 := hJ.r70, rA := hJ.rA, fin := hJ.fin }
                · refine ⟨fun s hs => by cases hs <;> decide, ?_⟩
                  rintro dd val W hJ hd hdep hcl K hK
                  rw [if_pos (by rfl)]
                  dsimp only [putF, List.foldl, Act.put] at hK ⊢
                  simp only [List.setIfInBounds_toArray, List.set_cons_zero, List.set_cons_succ] at hK ⊢
                  have h13 : dd 10 = false := by
                    cases h : dd 10 with
                    | false => rfl
                    | true =>
                      have c10 := h
                      have c9 := hcl 10 _ rfl c10 ⟨9, .data⟩ (by simp) rfl
                      have c8 := hcl 9 _ rfl c9 ⟨8, .data⟩ (by simp) rfl
                      have c7 := hcl 8 _ rfl c8 ⟨7, .data⟩ (by simp) rfl
                      have c6 := hcl 7 _ rfl c7 ⟨6, .data⟩ (by simp) rfl
                      have c5 := hcl 6 _ rfl c6 ⟨5, .data⟩ (by simp) rfl
                      rw [hd] at c5; cases c5
                  have e65 := hJ.v65 (hdep ⟨4, .data⟩ (by simp) rfl)
                  simp only [e65] at hK ⊢
                  have q0 := HC.out W (hJ.fb h13)
                  go_simp
                  exact hK.out _ _ { fb := hJ.fb, fb2 := hJ.fb2, v61 := hJ.v61, v62 := hJ.v62, v63 := hJ.v63, v64 := hJ.v64, v65 := hJ.v65, v66 := fun _ => rfl, v67 := hJ.v67, v68 := hJ.v68, v69 := hJ.v69, r70 := hJ.r70, rA := hJ.rA, fin := hJ.fin }
                · refine ⟨fun s hs => by cases hs <;> decide, ?_⟩
                  rintro dd val W hJ hd hdep hcl K hK
                  rw [if_pos (by rfl)]
                  dsimp only [putF, List.foldl, Act.put] at hK ⊢
                  simp only [List.setIfInBounds_toArray, List.set_cons_zero, List.set_cons_succ] at hK ⊢
                  have h13 : dd 10 = false := by
                    cases h : dd 10 with
                    | false => rfl
                    | true =>
                      have c10 := h
                      have c9 := hcl 10 _ rfl c10 ⟨9, .data⟩ (by simp) rfl
                      have c8 := hcl 9 _ rfl c9 ⟨8, .data⟩ (by simp) rfl
                      have c7 := hcl 8 _ rfl c8 ⟨7, .data⟩ (by simp) rfl
                      have c6 := hcl 7 _ rfl c7 ⟨6, .data⟩ (by simp) rfl
                      rw [hd] at c6; cases c6
                  have e66 := hJ.v66 (hdep ⟨5, .data⟩ (by simp) rfl)
                  simp only [e66] at hK ⊢
                  have hb13 := hJ.fb h13
                  have hf9 : dd 11 = false := by
                    cases h : dd 11 with
                    | false => rfl
                    | true => (have c13 := hcl 11 _ rfl h ⟨10, .data⟩ (by simp) rfl; rw [h13] at c13; cases c13)
                  have hb29 := hJ.fb2 hf9
                  go_simp
                  refine (HES.out W).mono ?_
                  rintro e9 w7 ⟨rfl, hb7⟩
                  go_wp2_with fail
                  exact hK.out _ _ { fb := fun _ => hb13.trans (hb7.mono hb13.size), fb2 := fun _ => hb29.trans (hb7.mono (by have := hb13.size; omega)), v61 := hJ.v61, v62 := hJ.v62, v63 := hJ.v63, v64 := hJ.v64, v65 := hJ.v65, v66 := hJ.v66, v67 := fun _ => rfl, v68 := hJ.v68, v69 := hJ.v69, r70 := fun h1 h13 => (let ⟨g, y1, y2, z0, z1⟩ := hJ.r70 h1 h13; ⟨g, y1, Nat.lt_of_lt_of_le y2 hb7.size, (hb7.cell (p := ⟨g, 0, none⟩) y2).trans z0, (hb7.cell (p := ⟨g, 1, none⟩) y2).trans z1⟩), rA := fun h _ => (by rw [show don dd _ 10 = dd 10 from rfl, h13] at h; cases h), fin := fun h => (by have c13 := hcl 11 _ rfl (show dd 11 = true from h) ⟨10, .data⟩ (by simp) rfl; rw [h13] at c13; cases c13) }
                · refine ⟨fun s hs => by cases hs <;> decide, ?_⟩
                  rintro dd val W hJ hd hdep hcl K hK
                  rw [if_pos (by rfl)]
                  dsimp only [putF, List.foldl, Act.put] at hK ⊢
                  simp only [List.setIfInBounds_toArray, List.set_cons_zero, List.set_cons_succ] at hK ⊢
                  have e64 := hJ.v64 (hdep ⟨3, .data⟩ (by simp) rfl)
                  have e67 := hJ.v67 (hdep ⟨6, .data⟩ (by simp) rfl)
                  simp only [e64, e67] at hK ⊢
                  have n1 := HN2.out
                  have n2 := HZ1.out
                  go_simp
                  exact hK.out _ _ { fb := hJ.fb, fb2 := hJ.fb2, v61 := hJ.v61, v62 := hJ.v62, v63 := hJ.v63, v64 := hJ.v64, v65 := hJ.v65, v66 := hJ.v66, v67 := hJ.v67, v68 := fun _ => rfl, v69 := hJ.v69, r70 := hJ.r70, rA := hJ.rA, fin := hJ.fin }
                · refine ⟨fun s hs => by cases hs <;> decide, ?_⟩
                  rintro dd val W hJ hd hdep hcl K hK
                  rw [if_pos (by rfl)]
                  dsimp only [putF, List.foldl, Act.put] at hK ⊢
                  simp only [List.setIfInBounds_toArray, List.set_cons_zero, List.set_cons_succ] at hK ⊢
                  have e62 := hJ.v62 (hdep ⟨1, .data⟩ (by simp) rfl)
                  have e68 := hJ.v68 (hdep ⟨7, .data⟩ (by simp) rfl)
                  simp only [e62, e68] at hK ⊢
                  go_simp
                  exact hK.out _ _ { fb := hJ.fb, fb2 := hJ.fb2, v61 := hJ.v61, v62 := hJ.v62, v63 := hJ.v63, v64 := hJ.v64, v65 := hJ.v65, v66 := hJ.v66, v67 := hJ.v67, v68 := hJ.v68, v69 := fun _ => rfl, r70 := hJ.r70, rA := hJ.rA, fin := hJ.fin }
                · refine ⟨fun s hs => by cases hs <;> decide, ?_⟩
                  rintro dd val W hJ hd hdep hcl K hK
                  rw [if_pos (by rfl)]
                  dsimp only [putF, List.foldl, Act.put] at hK ⊢
                  simp only [List.setIfInBounds_toArray, List.set_cons_zero, List.set_cons_succ] at hK ⊢
                  have h13 : dd 10 = false := by
                    cases h : dd 10 with
                    | false => rfl
                    | true =>
                      have c10 := h
                      have c9 := hcl 10 _ rfl c10 ⟨9, .data⟩ (by simp) rfl
                      rw [hd] at c9; cases c9
                  have e69 := hJ.v69 (hdep ⟨8, .data⟩ (by simp) rfl)
                  simp only [e69] at hK ⊢
                  have hf9 : dd 11 = false := by
                    cases h : dd 11 with
                    | false => rfl
                    | true => (have c13 := hcl 11 _ rfl h ⟨10, .data⟩ (by simp) rfl; rw [h13] at c13; cases c13)
                  have hb29 := hJ.fb2 hf9
                  go_simp
                  have hb7 : Below W.heap.size W (W.alloc (.cells #[.string e, .string z] 97)) := (Below.refl _ _).alloc (Nat.le_refl _) _
                  have hb13 := hJ.fb h13
                  exact hK.out _ _ { fb := fun _ => hb13.trans (hb7.mono hb13.size), fb2 := fun _ => hb29.trans (hb7.mono (by have := hb13.size; omega)), v61 := hJ.v61, v62 := hJ.v62, v63 := hJ.v63, v64 := hJ.v64, v65 := hJ.v65, v66 := hJ.v66, v67 := hJ.v67, v68 := hJ.v68, v69 := hJ.v69, r70 := fun _ _ => ⟨W.heap.size, rfl, by simp, by rw [World.cell?_alloc_new]; rfl, by rw [World.cell?_alloc_new]; rfl⟩, rA := fun h _ => (by rw [show don dd _ 10 = dd 10 from rfl, h13] at h; cases h), fin := fun h => (by have c13 := hcl 11 _ rfl (show dd 11 = true from h) ⟨10, .data⟩ (by simp) rfl; rw [h13] at c13; cases c13) }
                · refine ⟨fun s hs => by cases hs <;> decide, ?_⟩
                  rintro dd val W hJ hd hdep hcl K hK
                  rw [if_pos (by rfl)]
                  dsimp only [putF, List.foldl, Act.put] at hK ⊢
                  simp only [List.setIfInBounds_toArray, List.set_cons_zero, List.set_cons_succ] at hK ⊢
                  have e61 := hJ.v61 (hdep ⟨0, .data⟩ (by simp) rfl)
                  obtain ⟨g24, y1, y2, y3, y4⟩ := hJ.r70 (hdep ⟨9, .data⟩ (by simp) rfl) hd
                  have hb13 := hJ.fb hd
                  have hf9 : dd 11 = false := by
                    cases h : dd 11 with
                    | false => rfl
                    | true => (have c13 := hcl 11 _ rfl h ⟨10, .data⟩ (by simp) rfl; rw [hd] at c13; cases c13)
                  have hb29 := hJ.fb2 hf9
                  simp only [e61, y1] at hK ⊢
                  refine wp_apps RItem.ok W (.tmp 61) (.tmp 70) 90 rfl bi 97 (.agg #[.string ⟨#[]⟩, .string ⟨#[]⟩]) 32 Tryz.underlying90 info_item rfl (by decide) No (.slice A6 L.length c6) L rfl (HOWN2.out.below RItem.ok (no_lt _) hb13) (.slice (some ⟨g24, 0, none⟩) 1 1) [(e.data.toList, z.data.toList)] rfl (.inr ⟨⟨g24, 0, none⟩, 1, 1, rfl, rfl, fun i y hy => ⟨itemC (e.data.toList, z.data.toList), by
                    match i, hy with
                    | 0, hy => simp at hy; subst hy; rfl, fun j u hu => by
                    match i, hy, j, hu with
                    | 0, _, 0, hu =>
                      simp [itemC] at hu
                      subst hu
                      simpa [Addr.add_lit] using y3
                    | 0, _, 1, hu =>
                      simp [itemC] at hu
                      subst hu
                      simpa [Addr.add_lit] using y4⟩⟩) (no_lt _) (by simp; omega) (by simp [maxLen]; omega) (by have := hb13.size; omega) ?_
                  intro v7 w7 hown7 hgr7 hb7 hat7
                  exact hK.out _ _ { fb := fun h => (by cases h), fb2 := fun _ => hb29.trans hb7, v61 := hJ.v61, v62 := hJ.v62, v63 := hJ.v63, v64 := hJ.v64, v65 := hJ.v65, v66 := hJ.v66, v67 := hJ.v67, v68 := hJ.v68, v69 := hJ.v69, r70 := fun _ h => (by cases h), rA := fun _ _ => hown7, fin := fun h => (by rw [show dd 11 = true from h] at hf9; cases hf9) }
                · refine ⟨fun s hs => by cases hs <;> decide, ?_⟩
                  rintro dd val W hJ hd hdep hcl K hK
                  rw [if_pos (by rfl)]
                  dsimp only [putF, List.foldl, Act.put] at hK ⊢
                  simp only [List.setIfInBounds_toArray, List.set_cons_zero, List.set_cons_succ] at hK ⊢
                  have c10 := hdep ⟨10, .data⟩ (by simp) rfl
                  have hown9 := hJ.rA c10 hd
                  have hb29 := hJ.fb2 hd
                  obtain ⟨v9, hv9⟩ : ∃ v, val 71 = v := ⟨_, rfl⟩
                  rw [hv9] at hown9
                  obtain ⟨A9, c9, hs9⟩ := (hown9.sl RItem.ok).shape
                  obtain ⟨n9, hn9⟩ : ∃ n9, (L ++ [(e.data.toList, z.data.toList)]).length = n9 := ⟨_, rfl⟩
                  rw [hn9] at hs9
                  clear hn9
                  subst hs9
                  simp only [hv9] at hK ⊢
                  obtain ⟨q0, q1⟩ := HC9.out W hb29
                  go_simp
                  exact hK.out undef _ { fb := fun h => (by rw [show dd 10 = false from h] at c10; cases c10), fb2 := fun h => (by cases h), v61 := hJ.v61, v62 := hJ.v62, v63 := hJ.v63, v64 := hJ.v64, v65 := hJ.v65, v66 := hJ.v66, v67 := hJ.v67, v68 := hJ.v68, v69 := hJ.v69, r70 := fun h1 h2 => (by rw [show dd 10 = false from h2] at c10; cases c10), rA := fun _ h => (by cases h), fin := fun _ => ⟨W, _, hb29, hown9, rfl⟩ }
                · intro dd val W hall hJ
                  obtain ⟨Wp, v8, hbp, hownp, hWp⟩ := hJ.fin (hall 11 (by decide))
                  dsimp only [putF, List.foldl, Act.put]
                  simp only [List.setIfInBounds_toArray, List.set_cons_zero, List.set_cons_succ]
                  have HBP := hide (HB2.out.trans (hbp.mono hbs1))
                  have HOP := hide hownp
                  have HCP := hide ((HC9i.out Wp hbp).store v8)
                  have hzW := hbp.size
                  rw [hWp]
                  clear hbp hownp hWp hJ hall
                  go_wp2_with fail
                  go_roundw
                  case rel => exact ⟨j + 1, L ++ [(e.data.toList, z.data.toList)], v8, by omega, by go_num, by simp [HOL.out], HCP.out, HOP.out.other RItem.ok (fun _ h => h.elim) hg8b _, HBP.out.setCell (p := ⟨g8, 0, none⟩) hg80 _, by simp; omega, hide (by rw [HSTEP.out, ← HLL.out])⟩
                  case measure => simp [intOf]; omega
          · have hLr : L = r.map itemA := by
              have := HLL.out
              rwa [List.take_of_length_le (by omega)] at this
            have hr1 : 1 ≤ L.length := by
              have := HOKR.out.1
              have : r.length ≠ 0 := fun e => HOKR.out.1 (by omega)
              omega
            have hLl : L.length = r.length := by omega
            have HSRT := hide (sortItems_any L hr1 (by omega) vL bi g8 wr hownL hcL.facts.1 hg8b)
            obtain ⟨g4, cap4, -, hv4, -⟩ := hownL.at_ (i := 0) (by omega)
            rw [hLl] at hv4
            subst hv4
            have HLR := hide hLr
            obtain ⟨f8, -⟩ := hcL.facts
            have HR1 := hide (show 0 < r.length by omega)
            clear hLr hr1 hLl hol hb2 hcL hownL
            obtain ⟨wi, rfl⟩ : ∃ wo : World, wo = wr := ⟨_, rfl⟩
            go_wp2_with fail
            refine HSRT.out.mono ?_
            rintro e9 w2 ⟨rfl, l', hp, hs, hsl2, hb2s⟩
            have hl' := items_sorted HOKR.out.2.2.1 (HLR.out ▸ hp) hs
            obtain ⟨q, hq⟩ : ∃ q, sortR r = q := ⟨_, rfl⟩
            rw [hq] at hl'
            subst hl'
            have hql : q.length = r.length := by rw [← hq]; exact (sortR_perm r).length_eq
            have HOKQ := hide (show ∀ a ∈ q, okA a from fun a ha => HOKR.out.2.2.1 a ((sortR_perm r).mem_iff.1 (hq ▸ ha)))
            have HQL := hide hql
            have HQR := hide hq
            have HSL2 := hide hsl2
            have HB2s := hide (HB2a.out.trans (hb2s.mono hbi0))
            have f8 := ((HCL.out.keep hb2s hg8b).facts.1)
            obtain ⟨b2, hb2e⟩ : ∃ b, b = w2.heap.size := ⟨_, rfl⟩
            have hg20 : b2 ≤ w2.heap.size := by omega
            have hb2w : w2.heap.size ≤ b2 := by omega
            clear hp hs hsl2 hb2s hq hql hb2e
            go_wp2_with fail
            go_loopw [16, 79] (fun v i wi => ∃ (m : Nat) (ws : List (List UInt8)), m ≤ r.length ∧ i = .int .i64 m ∧ ws.length = m ∧ Own RStr 1 9 wi b2 No v ws ∧ Below w2.heap.size w2 wi ∧ b2 ≤ wi.heap.size ∧ Hid (ws = (q.take m).map fmtA)) (fun _ i _ => r.length - (intOf i).toNat)
            case atStart => exact ⟨0, [], by omega, rfl, rfl, Own.nil _ _ _ _ _ _, Below.refl _ _, hg20, hide (by simp)⟩
            case round =>
              obtain ⟨m, ws, hm, rfl, hwl, hownW, hb4, hg4, HWS⟩ := hrel
              have HB4 := hide hb4
              have HOWNW := hide hownW
              have HWL := hide hwl
              obtain ⟨w4, rfl⟩ : ∃ wo : World, wo = wr := ⟨_, rfl⟩
              by_cases hml : m < r.length
              · have hmq : m < q.length := by rw [HQL.out]; exact hml
                obtain ⟨b9, o9, x9, hA9, hbS9, hr9, hc9⟩ := HSL2.out.at_ (i := m) (by rw [List.length_map]; exact hmq)
                cases hA9
                have hr9' : x9 = itemC ((q.map itemA)[m]'(by rw [List.length_map]; exact hmq)) := hr9
                rw [List.getElem_map] at hr9'
                subst hr9'
                obtain ⟨sc, hsc⟩ : ∃ x : ByteArray, x = ⟨(encA q[m]).toArray⟩ := ⟨_, rfl⟩
                obtain ⟨sw, hsw⟩ : ∃ x : ByteArray, x = ⟨(fmtA q[m]).toArray⟩ := ⟨_, rfl⟩
                have d0 : w4.cell? ⟨g4, m * 2, none⟩ = some (.string sc) := by
                  have := hc9 0 _ rfl
                  rw [Nat.zero_add, Nat.add_zero, show (itemA q[m]).1 = encA q[m] from rfl, ← hsc] at this
                  exact (hb4.cell (p := ⟨g4, m * 2, none⟩) hbS9).trans this
                have d1 : w4.cell? ⟨g4, m * 2 + 1, none⟩ = some (.string sw) := by
                  have := hc9 1 _ rfl
                  rw [Nat.zero_add, show (itemA q[m]).2 = fmtA q[m] from rfl, ← hsw] at this
                  exact (hb4.cell (p := ⟨g4, m * 2 + 1, none⟩) hbS9).trans this
                have HSW := hide (map_step fmtA q m hmq (y := sw.data.toList) (by rw [hsw]))
                obtain ⟨A7, c7, hv7⟩ := (hownW.sl RStr.ok).shape
                subst hv7
                have hws4 : ws.length ≤ 4 := by omega
                obtain ⟨w5, hw5⟩ : ∃ W, W = w4.alloc (.cells #[.string sc, .string sw] 97) := ⟨_, rfl⟩
                obtain ⟨i0, i1, hb5⟩ := two_str hw5
                have HB5 := hide (HB4.out.trans (hb5.mono HB4.out.size))
                have HO5 := hide (HOWNW.out.below RStr.ok (no_lt _) hb5)
                have hz5 := hb5.size
                obtain ⟨g7, hg7⟩ : ∃ g, w4.heap.size = g := ⟨_, rfl⟩
                rw [hg7] at i0 i1
                have hb25 : b2 ≤ w5.heap.size := by omega
                clear hsc hsw hc9 hr9 hbS9 hb4 hb5 hownW hwl hz5
                go_upto_region 29 with fail
                rw [← hw5]
                try rw [hg7]
                clear hw5 hg7 d0 d1
                go_wp2_with (at_builtin; refine wpList_app RStr.ok _ rfl (.tmp 83) (.tmp 86) 38 rfl b2 9 (.string ⟨#[]⟩) 16 Tryz.underlying38 info_str rfl (by decide) No (.slice A7 ws.length c7) ws rfl (HO5.out.alloc RStr.ok (no_lt _) _) ⟨_, 0, none⟩ 1 1 [sw.data.toList] rfl rfl (news_item1 _ _ sw) (no_lt _) (by simp; omega) (by simp [maxLen]; omega) (by simp; omega) ?_; intro v6 w6 hown6 hg6 hb6 hat6; have hsz6 := hb6.size; simp at hsz6)
                go_roundw
                case rel => exact ⟨m + 1, ws ++ [sw.data.toList], by omega, by go_num, by simp [HWL.out], hown6, (HB5.out.alloc HB5.out.size _).trans (hb6.mono hb2w), by omega, hide (by rw [HSW.out, ← HWS.out])⟩
                case measure => simp [intOf]; omega
              · have hws : ws = q.map fmtA := by
                  have := HWS.out
                  rwa [List.take_of_length_le (by rw [HQL.out]; omega)] at this
                obtain ⟨x, hx⟩ : ∃ x : ByteArray, x = ⟨(Lib.join ws [43]).toArray⟩ := ⟨_, rfl⟩
                have hxr : x.data.toList = fmtR (sortR r) := by rw [hx, hws, HQR.out]; rfl
                have hlen := fmtR_len hr4 HOKR.out.2.2.1
                rw [← hxr, size_string] at hlen
                have HXR := hide hxr
                have hjl : (Lib.join ws [43]).length = x.size := by rw [hx, ba_mk]
                have hr1' := HR1.out
                have hjb : (Lib.join ws [43]).length ≤ 140737488355328 := by rw [hjl]; omega
                have hJ0 := Join_sep 43 _ ws b2 w4 hownW (by omega) (by omega) hjb
                rw [← hx] at hJ0
                have HJ := hide hJ0
                have HBW := hide (HB.out.trans ((HB2s.out.trans (hb4.mono HB2s.out.size)).mono HB.out.size))
                have HOW := hide (HOWN.out.below RStr.ok (no_lt _) (HB2s.out.trans (hb4.mono HB2s.out.size)))
                have hzb : base ≤ w4.heap.size := by have := HB2s.out.size; have := hb4.size; have := HZ0.out; omega
                obtain ⟨A7, c7, hv7⟩ := (hownW.sl RStr.ok).shape
                subst hv7
                clear hownW hwl hws hx hxr hjl hb4 hjb hJ0 hr1'
                go_wp2_with fail
                refine HJ.out.mono ?_
                rintro e9 w5 ⟨rfl, hb5⟩
                have HB5 := hide (HBW.out.trans (hb5.mono HBW.out.size))
                have HO5 := hide (HOW.out.below RStr.ok (no_lt _) hb5)
                have hz5 := hb5.size
                clear hb5
                go_wp2_with (at_builtin; refine wpList_app RStr.ok _ rfl (.tmp 89) (.tmp 92) 38 rfl base 9 (.string ⟨#[]⟩) 16 Tryz.underlying38 info_str rfl (by decide) No (.slice A5 out.length c5) out rfl (HO5.out.alloc RStr.ok (no_lt _) _) ⟨_, 0, none⟩ 1 1 [x.data.toList] rfl rfl (news_item1 _ _ x) (no_lt _) (by simp; omega) (by simp [maxLen]; omega) (by simp; omega) ?_; intro v6 w6 hown6 hg6 hb6 hat6; have hsz6 := hb6.size; simp at hsz6)
                go_roundw
                case rel => exact ⟨k + 1, out ++ [x.data.toList], by omega, by go_num, by simp [HLK.out], hown6, (HB5.out.alloc HB5.out.size _).trans (hb6.mono hbw), by omega, hide (by rw [HSTEPK.out, HXR.out, ← HOUT.out])⟩
                case measure => simp [intOf]; omega
      · have hs8 : out.length ≤ 8 := by omega
        have hall : out = n.map fun r => fmtR (sortR r) := by
          have := HOUT.out
          rwa [List.take_of_length_le (by omega)] at this
        have hmem : ∀ x ∈ out, x.length ≤ 5204 := fun x hx => by
          rw [hall] at hx
          obtain ⟨r, hr, rfl⟩ := List.mem_map.1 hx
          have hok := HOK.out r hr
          exact fmtR_len hok.2.1 hok.2.2.1
        have hjl := join_len 44 5204 out hmem
        have h8 : out.length * 5205 ≤ 8 * 5205 := Nat.mul_le_mul_right _ hs8
        obtain ⟨E, hE⟩ : ∃ E : ByteArray, E = ⟨(fmtB n).toArray⟩ := ⟨_, rfl⟩
        have hEo : E = ⟨(Lib.join out [44]).toArray⟩ := by rw [hE, hall]; rfl
        have hjb : (Lib.join out [44]).length ≤ 140737488355328 := by omega
        have hJ0 := Join_sep0 44 _ out base wr hown (by omega) hjb
        rw [← hEo] at hJ0
        have HJ := hide hJ0
        obtain ⟨A7, c7, hv7⟩ := (hown.sl RStr.ok).shape
        subst hv7
        have HEE := hide (show wrapR o = .tuple #[.string E, .int .i64 0] by rw [HE.out, wrapR, hE])
        clear hown hsl0 hall hmem hjl h8 hE hEo hb hjb hJ0
        go_wp2_with fail
        refine HJ.out.mono ?_
        rintro e w7 ⟨rfl, hb7⟩
        have HB7 := hide (HB.out.trans (hb7.mono HB.out.size))
        clear hb7
        go_wp2_with fail
        go_ret2
        exact ⟨by rw [HEE.out]; rfl, HB7.out⟩
  · have ht : (q != 0) = true := by simp [hq0]
    have HN := hide (show o = ([], q) by rw [← HO.out, fmtN, if_neg (by rw [HQ.out]; exact hq0), HQ.out])
    clear hq0
    go_wp2_with fail
    go_ret2
    exact ⟨by rw [HN.out]; rfl, HB1.out⟩
end Go.Proofs.YtmgnihmjjijdoaaGreatDoor
