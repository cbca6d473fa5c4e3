/- The reference's EncodeName. -/
import Derived.Test.YtahamclodagihaaGreatDoorNGLibI
import Derived.Test.YtahamclodagihaaGreatDoorNGSplit
import Derived.Shelf.Sort.Plain
import Derived.Test.YtahamclodagihaaGreatDoorNGNamR
namespace Go.Proofs.YtahamclodagihaaGreatDoor
open Go.RowKit
end Go.Proofs.YtahamclodagihaaGreatDoor
namespace Go.Proofs.YtahamclodagihaaGreatDoor
open Go.RowKit
set_option maxRecDepth 100000 in
set_option maxHeartbeats 4000000 in
theorem encAttr_any (t v : ByteArray) (kd : Int) (hok : okA (t.data.toList, kd, v.data.toList)) (E : ByteArray) (hE : E = ⟨(encA (t.data.toList, kd, v.data.toList)).toArray⟩) (w : World) (hmx : Mx w) :
  Calls Tryz.prog 54 #[.agg #[.string t, .int .i64 kd, .string v]] w fun e w' => e = .returned (.tuple #[.string E, .int .i64 0]) ∧ Below w.heap.size w w' := by
 have HMX := hide hmx
 obtain ⟨W0, hW0⟩ : ∃ W, W = w.alloc (.cells #[.string t, .int .i64 kd, .string v] 27) := ⟨_, rfl⟩
 have hAB : AtB w.heap.size t kd v W0 := by rw [hW0]; exact AtB.new w _ _ _
 have HB0 := hide (show Below w.heap.size w W0 by rw [hW0]; exact (Below.refl _ _).alloc (Nat.le_refl _) _)
 have HAB := hide hAB
 obtain ⟨c, hc, hcl⟩ := encP_valid hok.1
 have hts : t.size ≤ 1000 := by rw [← size_string]; exact valid_len hok.1
 have hvs : v.size ≤ 64 := by rw [← size_string]; exact hok.2.2.2
 obtain ⟨C, hC⟩ : ∃ C : ByteArray, C = ⟨c.toArray⟩ := ⟨_, rfl⟩
 have hCs : C.size ≤ 1000 := by rw [hC, ba_mk]; exact hcl
 have HEN := hide (show encR (encP t.data.toList) = .tuple #[.string C, .int .i64 0] by rw [hc, hC]; rfl)
 obtain ⟨x, hx⟩ : ∃ x : ByteArray, x = ⟨(wrapW 6 C.data.toList).toArray⟩ := ⟨_, rfl⟩
 have hxs : x.size ≤ 1005 := by
  rw [hx, ba_mk, wrapW_len]
  have := lenB_le C.data.toList.length
  rw [size_string] at *
  omega
 obtain ⟨y, hy⟩ : ∃ y : ByteArray, y = ⟨(wrapW kd.toNat v.data.toList).toArray⟩ := ⟨_, rfl⟩
 have hys : y.size ≤ 70 := by
  rw [hy, ba_mk, wrapW_len]
  have := lenB_le v.data.toList.length
  rw [size_string] at *
  omega
 obtain ⟨k1, k2, k3⟩ := kind_nat hok
 simp only at k1 k2 k3
 have HW6 := hide (show ∀ W : World, Calls Tryz.prog 55 #[.int .i64 6, .slice (some ⟨W.heap.size, 0, none⟩) 1 1] (W.alloc (.cells #[.string C] 9)) fun e9 w' => e9 = .returned (.tuple #[.string x, .int .i64 0]) ∧ Below W.heap.size W w' from fun W => by
  have := wrap_one 6 (by omega) (by omega) C (by omega) _ (wrapF_one (t := 6) (x := C) (by omega)) W
  rw [wrapR, ← hx] at this
  exact this)
 have HWK := hide (show ∀ W : World, Calls Tryz.prog 55 #[.int .i64 kd, .slice (some ⟨W.heap.size, 0, none⟩) 1 1] (W.alloc (.cells #[.string v] 9)) fun e9 w' => e9 = .returned (.tuple #[.string y, .int .i64 0]) ∧ Below W.heap.size W w' from fun W => by
  have := wrap_one kd.toNat k1 k2 v (by omega) _ (wrapF_one (t := kd.toNat) (x := v) (by omega)) W
  rw [wrapR, ← hy, k3] at this
  exact this)
 have HW48 := hide (show ∀ W : World, Calls Tryz.prog 55 #[.int .i64 48, .slice (some ⟨W.heap.size, 0, none⟩) 2 2] (W.alloc (.cells #[.string x, .string y] 9)) fun e9 w' => e9 = .returned (.tuple #[.string E, .int .i64 0]) ∧ Below W.heap.size W w' from fun W => by
  have := wrap_two 48 (by omega) (by omega) x y (by omega) (by omega) _ (wrapF_two (t := 48) (x := x) (y := y) (by omega)) W
  have hee : (⟨(wrapW 48 (x.data.toList ++ y.data.toList)).toArray⟩ : ByteArray) = E := by
   rw [hE, hx, hy, hC, encA, idW]
   simp only [hc, Option.getD_some]
  rw [wrapR, hee] at this
  exact this)
 obtain ⟨c0, c1, c2, -, -, -⟩ := hAB.facts
 clear hmx hok hAB hc hcl hC hCs hx hxs hy hys k1 k2 k3 hE hvs
 go_enter Tryz.func54, Tryz.ntmps54
 go_upto_region 1 with fail
 rw [← hW0]
 clear hW0
 go_wp2_with fail
 refine (Encode_any t (by omega) _ (HMX.out.below HB0.out)).mono ?_
 rintro e w1 ⟨rfl, hb1⟩
 rw [HEN.out]
 have HB1 := hide (HB0.out.trans (hb1.mono HB0.out.size))
 have HA1 := hide (HAB.out.below hb1)
 clear hb1 c0 c1 c2
 go_wp2_with fail
 refine (HW6.out _).mono ?_
 rintro e w2 ⟨rfl, hb2⟩
 have HB2 := hide (HB1.out.trans (hb2.mono HB1.out.size))
 have HA2 := hide (HA1.out.below hb2)
 clear hb2
 obtain ⟨c0, c1, c2, -, -, -⟩ := HA2.out.facts
 go_wp2_with fail
 refine (HWK.out _).mono ?_
 rintro e w3 ⟨rfl, hb3⟩
 have HB3 := hide (HB2.out.trans (hb3.mono HB2.out.size))
 clear hb3 c0 c1 c2
 go_wp2_with fail
 refine (HW48.out _).mono ?_
 rintro e w4 ⟨rfl, hb4⟩
 have HB4 := hide (HB3.out.trans (hb4.mono HB3.out.size))
 clear hb4
 go_wp2_with fail
 go_ret2
 exact ⟨rfl, HB4.out⟩
end Go.Proofs.YtahamclodagihaaGreatDoor
namespace Go.Proofs.YtahamclodagihaaGreatDoor
open Go.RowKit
theorem map_step {α β : Type} (f : α → β) (l : List α) (k : Nat) (h : k < l.length) {y : β} (hy : f l[k] = y) : (l.take (k + 1)).map f = (l.take k).map f ++ [y] := by
 rw [List.take_succ_eq_append_getElem h, List.map_append, List.map_cons, List.map_nil, hy]
end Go.Proofs.YtahamclodagihaaGreatDoor
namespace Go.Proofs.YtahamclodagihaaGreatDoor
open Go.RowKit
theorem Parse_c (s : ByteArray) (hs : s.size ≤ 100000) (k : Int) (n : Name) (hp : parseP s.data.toList = (k, n)) (w : World) (hmx : Mx w) :
  Calls Tryz.prog 22 #[.string s] w fun e w' => ∃ A c, e = .returned (.tuple #[.agg #[.slice A n.length c], .int .i64 k]) ∧ Sl RRdn 1 w' (Lt w'.heap.size) n [.slice A n.length c] ∧ Below w.heap.size w w' ∧ SmallN n := by
 refine (Parse_any s hs w hmx).mono fun e w' h => ?_
 rw [hp] at h
 obtain ⟨v, he, hsl, hb, hsm⟩ := h
 obtain ⟨A, c, hv⟩ := hsl.shape
 subst hv
 exact ⟨A, c, he, hsl, hb, hsm⟩
theorem Match_v (n m : Name) (A B : Option Addr) (c d : Nat) (q : Bool) (hq : matchN n m = q) (w : World) (h : Sl RRdn 1 w (Lt w.heap.size) n [.slice A n.length c]) (h2 : Sl RRdn 1 w (Lt w.heap.size) m [.slice B m.length d]) (hs1 : SmallN n) (hs2 : SmallN m) :
  Calls Tryz.prog 52 #[.agg #[.slice A n.length c], .agg #[.slice B m.length d]] w fun e w' => e = .returned (.bool q) ∧ Below w.heap.size w w' := hq ▸ MatchN_any n m A B c d w h h2 hs1 hs2
def awN : Name := [[([50, 46, 53, 46, 52, 46, 51], 19, [87, 101, 98, 32, 83, 101, 114, 118, 101, 114])], [([50, 46, 53, 46, 52, 46, 49, 48], 19, [69, 120, 97, 109, 112, 108, 101])]]
def awM : Name := [[([50, 46, 53, 46, 52, 46, 51], 19, [119, 101, 98, 32, 32, 115, 101, 114, 118, 101, 114])], [([50, 46, 53, 46, 52, 46, 49, 48], 19, [69, 88, 65, 77, 80, 76, 69])]]
theorem aw_n : parseP [67, 78, 61, 87, 101, 98, 32, 83, 101, 114, 118, 101, 114, 44, 79, 61, 69, 120, 97, 109, 112, 108, 101] = (0, awN) := by decide +kernel
theorem aw_m : parseP [67, 78, 61, 119, 101, 98, 32, 32, 115, 101, 114, 118, 101, 114, 44, 79, 61, 69, 88, 65, 77, 80, 76, 69] = (0, awM) := by decide +kernel
theorem aw_nm : matchN awN awM = true := by decide +kernel
theorem aw_n0 : matchN awN [] = false := by decide +kernel
set_option maxRecDepth 100000 in
set_option maxHeartbeats 2000000 in
theorem nawake_any (w : World) (hmx : Mx w) : Calls Tryz.prog 11 #[] w fun e w' => e = .returned (.bool true) ∧ Below w.heap.size w w' := by
 have HMX := hide hmx
 obtain ⟨n, hn⟩ : ∃ n, awN = n := ⟨_, rfl⟩
 obtain ⟨m, hm⟩ : ∃ m, awM = m := ⟨_, rfl⟩
 have hnl : n.length = 2 := by rw [← hn]; rfl
 have PN := hide (fun W h => Parse_c ⟨#[67, 78, 61, 87, 101, 98, 32, 83, 101, 114, 118, 101, 114, 44, 79, 61, 69, 120, 97, 109, 112, 108, 101]⟩ (by decide) 0 n (hn ▸ aw_n) W h)
 have PM := hide (fun W h => Parse_c ⟨#[67, 78, 61, 119, 101, 98, 32, 32, 115, 101, 114, 118, 101, 114, 44, 79, 61, 69, 88, 65, 77, 80, 76, 69]⟩ (by decide) 0 m (hm ▸ aw_m) W h)
 have MN := hide (show matchN n m = true by rw [← hn, ← hm]; exact aw_nm)
 have M0 := hide (show matchN n [] = false by rw [← hn]; exact aw_n0)
 have ht : ((n.length : Int) == 2) = true := by rw [hnl]; rfl
 clear hmx hn hm hnl
 go_enter Tryz.func11, Tryz.ntmps11
 go_wp2_with fail
 refine (PN.out _ HMX.out).mono ?_
 rintro e w1 ⟨A, c, rfl, hsl1, hb1, hsm1⟩
 have hba := hb1.alloc hb1.size (.cells #[.slice A n.length c] 24)
 have hsla := (Sl.ok RRdn.ok).below hsl1 ((Below.refl w1.heap.size w1).alloc (Nat.le_refl _) (.cells #[.slice A n.length c] 24))
 have HM1 := hide (HMX.out.below hba)
 have HBA := hide hba
 have HSLA := hide hsla
 have HSM1 := hide hsm1
 clear hba hsla hb1 hsl1 hsm1
 go_wp2_with fail
 refine (PM.out _ HM1.out).mono ?_
 rintro e w2 ⟨B, d, rfl, hsl2, hb2, hsm2⟩
 have hc1 := cellN (i := 0) hb2 rfl
 have hx2 := below_new hb2
 have HB2 := hide (HBA.out.trans (hb2.mono HBA.out.size))
 have HSN2 := hide ((Sl.ok RRdn.ok).below HSLA.out hb2)
 have hgl : w1.heap.size < w2.heap.size := by have := hb2.size; simp at this; omega
 have hbc := (Below.refl w2.heap.size w2).alloc (Nat.le_refl _) (.cells #[.slice B m.length d] 24)
 have HSN3 := hide ((Sl.ok RRdn.ok).below HSN2.out hbc)
 have HSM3 := hide ((Sl.ok RRdn.ok).below hsl2 hbc)
 have HSM2 := hide hsm2
 have HB3 := hide (HB2.out.alloc HB2.out.size (.cells #[.slice B m.length d] 24))
 have HC1 := hide hc1
 clear hb2 hx2 hbc hsl2 hsm2
 go_wp2_with fail
 refine (Match_v n m A B c d true MN.out _ HSN3.out HSM3.out HSM1.out HSM2.out).mono ?_
 rintro e w4 ⟨rfl, hb4⟩
 have HB4 := hide (HB3.out.trans (hb4.mono HB3.out.size))
 have HSN4 := hide ((Sl.ok RRdn.ok).below HSN3.out hb4)
 have hc4 : w4.cell? ⟨w1.heap.size, 0, none⟩ = some (.slice A n.length c) := (hb4.cell (p := ⟨w1.heap.size, 0, none⟩) (by simp; omega)).trans ((World.cell?_alloc_lt _ _ _ (by exact hgl)).trans HC1.out)
 clear hb4 hc1
 go_wp2_with fail
 refine (Match_v n [] A none c 0 false M0.out _ HSN4.out (Sl.nil _ _ _ _) HSM1.out (fun x hx => by cases hx)).mono ?_
 rintro e w5 ⟨rfl, hb5⟩
 go_wp2_with fail
 go_ret
 exact ⟨rfl, HB4.out.trans (hb5.mono HB4.out.size)⟩
end Go.Proofs.YtahamclodagihaaGreatDoor
