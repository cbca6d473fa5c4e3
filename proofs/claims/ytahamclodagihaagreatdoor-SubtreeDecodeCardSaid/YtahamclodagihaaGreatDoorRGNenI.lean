/- The reference's EncodeName. -/
import Derived.Test.YtahamclodagihaaGreatDoorRGLibI
import Derived.Test.YtahamclodagihaaGreatDoorRGSplit
import Derived.Shelf.Sort.Plain
import Derived.Test.YtahamclodagihaaGreatDoorRGNamR
import Derived.Test.YtahamclodagihaaGreatDoorRGNamD
import Derived.Test.YtahamclodagihaaGreatDoorRGNamY
import Derived.Test.YtahamclodagihaaGreatDoorRGTlvJ
namespace Go.Proofs.YtahamclodagihaaGreatDoor
open Go.RowKit
theorem flat_step (n : Name) (k : Nat) (h : k < n.length) : (n.take (k + 1)).flatMap encQ = (n.take k).flatMap encQ ++ encQ n[k] := by
 rw [List.take_succ_eq_append_getElem h, List.flatMap_append, List.flatMap_cons, List.flatMap_nil, List.append_nil]
set_option maxRecDepth 100000 in
set_option maxHeartbeats 8000000 in
theorem rEncodeName_any (n : Name) (A : Option Addr) (c : Nat) (w : World) (hmx : Mx w) (h : Sl RRdn 1 w (Lt w.heap.size) n [.slice A n.length c]) (hsm : SmallN n) :
  Calls Tryz.prog 17 #[.agg #[.slice A n.length c]] w fun e w' => e = .returned (wrapR (encN n)) ∧ Below w.heap.size w w' := by
 have HMX := hide hmx
 have K := hide h
 have HSM := hide hsm
 obtain ⟨o, ho⟩ : ∃ o, encN n = o := ⟨_, rfl⟩
 rw [ho]
 have HO := hide ho
 obtain ⟨W0, hW0⟩ : ∃ W, W = w.alloc (.cells #[.slice A n.length c] 24) := ⟨_, rfl⟩
 have hnb : NB w.heap.size (.slice A n.length c) W0 := by rw [hW0]; exact heap_alloc_new w _
 have hb0 : Below w.heap.size w W0 := by rw [hW0]; exact (Below.refl _ _).alloc (Nat.le_refl _) _
 have HNB := hide hnb
 have HB0 := hide hb0
 have HS0 := hide ((Sl.ok RRdn.ok).below h hb0)
 obtain ⟨c0, -⟩ := hnb.facts
 obtain ⟨q, hq⟩ : ∃ q, chkN n = q := ⟨_, rfl⟩
 have HQ := hide hq
 clear hmx h hsm ho hnb hb0 hq
 go_enter Tryz.func17, Tryz.ntmps17
 go_upto_region 1 with fail
 rw [← hW0]
 clear hW0
 go_wp2_with fail
 refine (rCheck_any n A c _ (HMX.out.below HB0.out) HS0.out HSM.out).mono ?_
 rintro e w1 ⟨rfl, hb1⟩
 rw [HQ.out]
 have HB1 := hide (HB0.out.trans (hb1.mono HB0.out.size))
 have HN1 := hide (HNB.out.below hb1)
 clear hb1 c0
 by_cases hq0 : q = 0
 ·subst hq0
  have HE := hide (show o = (encB n, 0) by rw [← HO.out, encN, if_pos HQ.out])
  have HOK := hide ((chkN_iff n).1 HQ.out).2
  have hn8 : n.length ≤ 8 := ((chkN_iff n).1 HQ.out).1
  obtain ⟨c0, -⟩ := HN1.out.facts
  go_wp2_with fail
  go_loopw [5, 16] (fun s i wr => ∃ (k : Nat) (y : ByteArray), k ≤ n.length ∧ i = .int .i64 k ∧ s = .string y ∧ Below w.heap.size w wr ∧ y.size ≤ k * 4345 ∧ Hid (y.data.toList = (n.take k).flatMap encQ)) (fun _ i _ => n.length - (intOf i).toNat)
  case atStart => exact ⟨0, ⟨#[]⟩, by omega, rfl, rfl, HB1.out, by simp [ByteArray.size], hide (by simp)⟩
  case round =>
   obtain ⟨k, y, hk, rfl, rfl, hb, hys, HYL⟩ := hrel
   have HB := hide hb
   by_cases hlt : k < n.length
   ·obtain ⟨b, off, A2, c2, hA, hbS, d0, hsl⟩ := K.out.rdnAt hlt
    subst hA
    have hokr := HOK.out n[k] (List.getElem_mem hlt)
    have p0 := (hb.cell (p := ⟨b, off + k, none⟩) hbS).trans d0
    obtain ⟨r, hr⟩ : ∃ r, n[k] = r := ⟨_, rfl⟩
    have HSTEP := hide (hr ▸ flat_step n k hlt)
    have hslr := (Sl.ok RAttr.ok).below hsl hb
    rw [hr] at p0 hokr hslr
    have HSLR := hide hslr
    have HOKR := hide hokr
    have hr4 : r.length ≤ 4 := hokr.2.1
    obtain ⟨z, hz⟩ : ∃ z : ByteArray, z = ⟨(ordF (r.map encA)).flatten.toArray⟩ := ⟨_, rfl⟩
    have hzs : z.size ≤ 4340 := by rw [hz, ba_mk]; exact ord_len hokr
    obtain ⟨x, hx⟩ : ∃ x : ByteArray, x = ⟨(encQ r).toArray⟩ := ⟨_, rfl⟩
    have hxs : x.size ≤ 4345 := by rw [hx, ba_mk]; exact encQ_len hokr
    have HW49 := hide (show ∀ W : World, Calls Tryz.prog 57 #[.int .i64 49, .slice (some ⟨W.heap.size, 0, none⟩) 1 1] (W.alloc (.cells #[.string z] 9)) fun e9 w' => e9 = .returned (.string x) ∧ Below W.heap.size W w' from fun W => wrap7_one 49 (by omega) z (by omega) x (by rw [wrapG_at (by omega), wrapF_one (by omega), hx, hz]; rfl) W)
    have hbs : ¬ 9223372036854775807 < y.size + x.size := by have := Nat.mul_le_mul_right 4345 hk; omega
    have hyz := ba_size y x
    have HZ := hide (show (y ++ x).data.toList = (n.take (k + 1)).flatMap encQ by rw [HSTEP.out, ← HYL.out, hx]; simp [ByteArray.data_append])
    obtain ⟨u, hu⟩ : ∃ yy9 : ByteArray, y ++ x = yy9 := ⟨_, rfl⟩
    rw [hu] at hyz HZ
    have hus : u.size ≤ (k + 1) * 4345 := by rw [Nat.add_mul, Nat.one_mul]; omega
    have HUS := hide hus
    clear hb d0 hsl hr hokr hslr hx hxs hys hyz hus hzs
    go_wp2_with fail
    refine (rattributes_any r A2 c2 (by omega) HOKR.out.2.2.1 _ HSLR.out).mono ?_
    rintro e w5 ⟨A3, c3, rfl, hsl3, hb5⟩
    have HB5 := hide (HB.out.trans (hb5.mono HB.out.size))
    have hml : (r.map encA).length = r.length := List.length_map ..
    have HSL3 := hide (show Sl RStr 1 w5 (Lt w5.heap.size) (r.map encA) [.slice A3 (r.map encA).length c3] by
     rw [hml]; exact (Sl.ok RStr.ok).mono hsl3 (fun _ _ => rfl) (fun _ hj => hj.2))
    have HORD := hide (show Calls Tryz.prog 58 #[.slice A3 r.length c3] w5 fun e w' => e = .returned (.string z) ∧ Below w5.heap.size w5 w' by
     have := rOrder_any (r.map encA) A3 c3 (by rw [hml]; omega) (fun x hx => by
      obtain ⟨a, ha, rfl⟩ := List.mem_map.1 hx
      have := encA_len (HOKR.out.2.2.1 a ha)
      omega) w5 HSL3.out
     rw [hml, ← hz] at this
     exact this)
    clear hb5 hsl3 p0 hml hz
    go_wp2_with fail
    refine HORD.out.mono ?_
    rintro e w6 ⟨rfl, hb6⟩
    have HB6 := hide (HB5.out.trans (hb6.mono HB5.out.size))
    clear hb6
    go_wp2_with fail
    refine (HW49.out _).mono ?_
    rintro e w7 ⟨rfl, hb7⟩
    have HB7 := hide (HB6.out.trans (hb7.mono HB6.out.size))
    clear hb7
    go_wp2_with fail
    go_roundw
    case rel => exact ⟨k + 1, u, by omega, by go_num, rfl, HB7.out, HUS.out, HZ⟩
    case measure => simp [intOf]; omega
   ·have hk8 : k ≤ 8 := by omega
    have hys2 : y.size ≤ 34760 := by have := Nat.mul_le_mul_right 4345 hk8; omega
    obtain ⟨E, hE⟩ : ∃ E : ByteArray, E = ⟨(encB n).toArray⟩ := ⟨_, rfl⟩
    have HW48 := hide (show ∀ W : World, Calls Tryz.prog 57 #[.int .i64 48, .slice (some ⟨W.heap.size, 0, none⟩) 1 1] (W.alloc (.cells #[.string y] 9)) fun e9 w' => e9 = .returned (.string E) ∧ Below W.heap.size W w' from fun W => wrap7_one 48 (by omega) y (by omega) E (by
     rw [wrapG_at (by omega), wrapF_one (by omega), hE, HYL.out, List.take_of_length_le (by omega)]; rfl) W)
    have HEE := hide (show wrapR o = .tuple #[.string E, .int .i64 0] by rw [HE.out, wrapR, hE])
    clear hE hb hys hys2 hk8
    go_wp2_with fail
    refine (HW48.out _).mono ?_
    rintro e w7 ⟨rfl, hb7⟩
    have HB7 := hide (HB.out.trans (hb7.mono HB.out.size))
    clear hb7
    go_wp2_with fail
    go_ret2
    exact ⟨by rw [HEE.out]; rfl, HB7.out⟩
 ·have ht : (q != 0) = true := by simp [hq0]
  have HN := hide (show o = ([], q) by rw [← HO.out, encN, if_neg (by rw [HQ.out]; exact hq0), HQ.out])
  clear hq0
  go_wp2_with fail
  go_ret2
  exact ⟨by rw [HN.out]; rfl, HB1.out⟩
end Go.Proofs.YtahamclodagihaaGreatDoor
namespace Go.Proofs.YtahamclodagihaaGreatDoor
open Go.RowKit
end Go.Proofs.YtahamclodagihaaGreatDoor
namespace Go.Proofs.YtahamclodagihaaGreatDoor
open Go.RowKit
end Go.Proofs.YtahamclodagihaaGreatDoor
namespace Go.Proofs.YtahamclodagihaaGreatDoor
open Go.RowKit
end Go.Proofs.YtahamclodagihaaGreatDoor
namespace Go.Proofs.YtahamclodagihaaGreatDoor
open Go.RowKit
theorem neq_att (ta va : ByteArray) (k : Int) (W : World) : (binOp .neq 27 (.agg #[.string ta, .int .i64 k, .string va]) (.agg #[.string ta, .int .i64 k, .string va])).run Tryz.prog W = .ok (.bool false) W := by
 have h0 := Tryz.underlying9
 have h1 := Tryz.underlying3
 have h2 := Tryz.underlying27
 have hp : Program.stoodInHeld Tryz.prog 27 = false := by kernel_rfl
 have hf : Program.fieldsOf Tryz.prog 27 = _ := rfl
 go_simp
set_option maxRecDepth 100000 in
set_option maxHeartbeats 8000000 in
theorem Exact_same (n : Name) (A B : Option Addr) (c d : Nat) (w : World) (h : Sl RRdn 1 w (Lt w.heap.size) n [.slice A n.length c]) (h2 : Sl RRdn 1 w (Lt w.heap.size) n [.slice B n.length d]) :
  Calls Tryz.prog 91 #[.agg #[.slice A n.length c], .agg #[.slice B n.length d]] w fun e w' => e = .returned (.bool true) ∧ Below w.heap.size w w' := by
 obtain ⟨-, hnc, hcm⟩ := h.len_
 obtain ⟨-, hnc2, hcm2⟩ := h2.len_
 unfold maxLen at hcm hcm2
 have K := hide h
 have K2 := hide h2
 have t0 : ((n.length : Int) != (n.length : Int)) = false := by simp
 clear h h2
 go_enter Tryz.func91, Tryz.ntmps91
 go_wp2_with fail
 obtain ⟨wa, hwa⟩ : ∃ wa, wa = (w.alloc (.cells #[.slice A n.length c] 24)).alloc (.cells #[.slice B n.length d] 24) := ⟨_, rfl⟩
 have ha0 : wa.cell? ⟨w.heap.size, 0, none⟩ = some (.slice A n.length c) := by
  rw [hwa, World.cell?_alloc_lt _ _ _ (by simp), World.cell?_alloc_new]; rfl
 have ha1 : wa.cell? ⟨w.heap.size + 1, 0, none⟩ = some (.slice B n.length d) := by
  rw [hwa, show w.heap.size + 1 = (w.alloc (.cells #[.slice A n.length c] 24)).heap.size by simp, World.cell?_alloc_new]; rfl
 have hba : Below w.heap.size w wa := by rw [hwa]; exact ((Below.refl _ _).alloc (Nat.le_refl _) _).alloc (by simp) _
 rw [← hwa]
 have HA0 := hide ha0
 have HA1 := hide ha1
 have HBA := hide hba
 clear hwa ha0 ha1 hba t0
 go_loopw [17] (fun i wr => ∃ k : Nat, k ≤ n.length ∧ i = .int .i64 k ∧ Below wa.heap.size wa wr) (fun i _ => n.length - (intOf i).toNat)
 case atStart => exact ⟨0, by omega, rfl, Below.refl _ _⟩
 case round =>
  obtain ⟨k, hk, rfl, hb⟩ := hrel
  have hbw := HBA.out.trans (hb.mono HBA.out.size)
  by_cases hlt : k < n.length
  ·obtain ⟨b1, o1, A1, c1, hA, hbS, d1, hsl1⟩ := K.out.rdnAt hlt
   obtain ⟨b2, o2, A2, c2, hA2, hbS2, d2, hsl2⟩ := K2.out.rdnAt hlt
   subst hA hA2
   have hbS' : b1 < w.heap.size := hbS
   have hbS2' : b2 < w.heap.size := hbS2
   obtain ⟨r, hr⟩ : ∃ r, n[k] = r := ⟨_, rfl⟩
   rw [hr] at d1 d2 hsl1 hsl2
   have e0 := cell_grows hb _ _ HA0.out
   have e1 := cell_grows hb _ _ HA1.out
   have e2 := (hbw.cell (p := ⟨b1, o1 + k, none⟩) hbS').trans d1
   have e3 := (hbw.cell (p := ⟨b2, o2 + k, none⟩) hbS2').trans d2
   have t1 : ((r.length : Int) != (r.length : Int)) = false := by simp
   have hk0 : (0 : Int) ≤ (k : Int) := by omega
   have hkn : (k : Int) < (n.length : Int) := by omega
   have S1 := hide hsl1
   have S2 := hide hsl2
   have hm1 := hsl1.len_.2
   have hm2 := hsl2.len_.2
   obtain ⟨hm1, hm1'⟩ := hm1
   obtain ⟨hm2, hm2'⟩ := hm2
   unfold maxLen at hm1' hm2'
   have HB := hide hb
   have E0 := hide e0
   have E1 := hide e1
   have E2 := hide e2
   have E3 := hide e3
   obtain ⟨wo, rfl⟩ : ∃ wo : World, wo = wr := ⟨_, rfl⟩
   clear hr d1 d2 hsl1 hsl2 hb hbw
   go_wp2_with fail
   go_quiet (fail)
   go_wp2_with fail
   clear t1 e0 e1 e2 e3
   go_loopw [39] (fun i wi => ∃ j : Nat, j ≤ r.length ∧ i = .int .i64 j ∧ Below wo.heap.size wo wi) (fun i _ => r.length - (intOf i).toNat)
   case atStart => exact ⟨0, by omega, rfl, below_drewN (Below.refl _ _) _⟩
   case round =>
    obtain ⟨j, hj, rfl, hb⟩ := hrel
    by_cases hjl : j < r.length
    ·obtain ⟨b3, o3, hA3, hbS3, f0, f1, f2⟩ := attAt_v S1.out hjl
     obtain ⟨b4, o4, hA4, hbS4, g0, g1, g2⟩ := attAt_v S2.out hjl
     subst hA3 hA4
     have hbS3' : b3 < w.heap.size := hbS3
     have hbS4' : b4 < w.heap.size := hbS4
     obtain ⟨ta, va, kk, hrj⟩ : ∃ (ta va : ByteArray) (kk : Int), r[j] = (ta.data.toList, kk, va.data.toList) := ⟨⟨r[j].1.toArray⟩, ⟨r[j].2.2.toArray⟩, r[j].2.1, rfl⟩
     rw [hrj] at f0 f1 f2 g0 g1 g2
     have hbw := HBA.out.trans ((HB.out.trans (hb.mono HB.out.size)).mono HBA.out.size)
     have f0' : wr.cell? ⟨b3, o3 + j * 3, none⟩ = some (.string ta) := (hbw.cell (p := ⟨b3, o3 + j * 3, none⟩) hbS3').trans f0
     have f1' : wr.cell? ⟨b3, o3 + j * 3 + 1, none⟩ = some (.int .i64 kk) := (hbw.cell (p := ⟨b3, o3 + j * 3 + 1, none⟩) hbS3').trans f1
     have f2' : wr.cell? ⟨b3, o3 + j * 3 + 2, none⟩ = some (.string va) := (hbw.cell (p := ⟨b3, o3 + j * 3 + 2, none⟩) hbS3').trans f2
     have g0' : wr.cell? ⟨b4, o4 + j * 3, none⟩ = some (.string ta) := (hbw.cell (p := ⟨b4, o4 + j * 3, none⟩) hbS4').trans g0
     have g1' : wr.cell? ⟨b4, o4 + j * 3 + 1, none⟩ = some (.int .i64 kk) := (hbw.cell (p := ⟨b4, o4 + j * 3 + 1, none⟩) hbS4').trans g1
     have g2' : wr.cell? ⟨b4, o4 + j * 3 + 2, none⟩ = some (.string va) := (hbw.cell (p := ⟨b4, o4 + j * 3 + 2, none⟩) hbS4').trans g2
     have e0 := cell_grows hb _ _ E0.out
     have e1 := cell_grows hb _ _ E1.out
     have e2 := cell_grows hb _ _ E2.out
     have e3 := cell_grows hb _ _ E3.out
     have hj0 : (0 : Int) ≤ (j : Int) := by omega
     have hjr : (j : Int) < (r.length : Int) := by omega
     have hneq := neq_att ta va kk
     have HBI := hide hb
     clear f0 f1 f2 g0 g1 g2 hrj hbw hb
     go_wp2_with fail
     go_quiet (fail)
     go_wp2_with fail
     go_roundw
     case rel => exact ⟨j + 1, by omega, by go_num, below_drewN HBI.out _⟩
     case measure => simp [intOf]; omega
    ·have HBI := hide (HB.out.trans (hb.mono HB.out.size))
     clear hb
     go_wp2_with fail
     go_roundw
     case rel => exact ⟨k + 1, by omega, by go_num, HBI.out⟩
     case measure => simp [intOf]; omega
  ·have HBW := hide hbw
   clear hb hbw
   go_wp2_with fail
   go_ret
   exact ⟨rfl, HBW.out⟩
end Go.Proofs.YtahamclodagihaaGreatDoor
namespace Go.Proofs.YtahamclodagihaaGreatDoor
open Go.RowKit
def T4 (g : Nat) (W : World) : Prop := ∀ k, k < 4 → ∃ y : ByteArray, y.size ≤ 10000000 ∧ W.cell? ⟨g, k, none⟩ = some (.string y)
theorem T4.new (w : World) (a b c d : ByteArray) (ha : a.size ≤ 10000000) (hb : b.size ≤ 10000000) (hc : c.size ≤ 10000000) (hd : d.size ≤ 10000000) : T4 w.heap.size (w.alloc (.cells #[.string a, .string b, .string c, .string d] 9)) := fun k hk => by
 rw [World.cell?_alloc_new]
 match k, hk with
 | 0, _ => exact ⟨_, ha, rfl⟩
 | 1, _ => exact ⟨_, hb, rfl⟩
 | 2, _ => exact ⟨_, hc, rfl⟩
 | 3, _ => exact ⟨_, hd, rfl⟩
theorem encN_size (n : Name) : (encN n).1.length ≤ 40000 := by
 unfold encN
 by_cases h : chkN n = 0
 ·rw [if_pos h]
  have := encB_len h
  show (wrapW 48 (n.flatMap encQ)).length ≤ _
  rw [wrapW_len]
  have := lenB_le (n.flatMap encQ).length
  omega
 ·rw [if_neg h]; simp
end Go.Proofs.YtahamclodagihaaGreatDoor
