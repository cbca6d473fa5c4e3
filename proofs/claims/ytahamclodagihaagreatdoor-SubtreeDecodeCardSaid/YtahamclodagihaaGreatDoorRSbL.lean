/- The law SubtreeDecode, its walk. -/
import Derived.Test.YtahamclodagihaaGreatDoorRGSbH
import Derived.Test.YtahamclodagihaaGreatDoorRSbD
import Derived.Test.YtahamclodagihaaGreatDoorRGTlvJ
import Derived.Test.YtahamclodagihaaGreatDoorRGHosI
import Derived.Test.YtahamclodagihaaGreatDoorRGnM
namespace Go.Proofs.YtahamclodagihaaGreatDoor
open Go.RowKit
theorem encS_len (s : Sub) : (encS s).1.length ≤ 131077 := by
  rw [encS]
  split
  · cases hp : encSO (partO 160 s.1) (partO 161 s.2) with
    | none => rw [limR]; simp
    | some b =>
      rw [limR]
      unfold encSO at hp
      split at hp
      · rename_i a9 b9 _ _
        obtain ⟨h1, rfl⟩ := wrapO_some hp
        rw [wrapW_len]
        have := lenB_le (a9 ++ b9).length
        omega
      · cases hp
  · simp
def S4t (g : Nat) (W : World) : Prop := ∀ k, k < 4 → ∃ y : ByteArray, y.size ≤ 10000000 ∧ W.cell? ⟨g, k, none⟩ = some (.string y)
theorem S4t.new (w : World) (a b c d : ByteArray) (ha : a.size ≤ 10000000) (hb : b.size ≤ 10000000) (hc : c.size ≤ 10000000) (hd : d.size ≤ 10000000) : S4t w.heap.size (w.alloc (.cells #[.string a, .string b, .string c, .string d] 9)) := fun k hk => by
 rw [World.cell?_alloc_new]
 match k, hk with
 | 0, _ => exact ⟨_, ha, rfl⟩
 | 1, _ => exact ⟨_, hb, rfl⟩
 | 2, _ => exact ⟨_, hc, rfl⟩
 | 3, _ => exact ⟨_, hd, rfl⟩
set_option maxRecDepth 100000 in
set_option maxHeartbeats 16000000 in
theorem SubtreeDecode_any (b : ByteArray) (l : List Int) (A0 : Option Addr) (n0 c0 : Nat) (w : World) (hmx : Mx w) (htb : Tb w) (h : Sl RInt 1 w (Lt w.heap.size) l [.slice A0 n0 c0]) :
  Calls Tryz.prog 6 #[.string b, .slice A0 n0 c0] w fun e w' => e = .returned (.bool true) ∧ Below w.heap.size w w' := by
 have HMX := hide hmx
 have HTB := hide htb
 have K0 := hide h
 have HB0 := hide (Below.refl w.heap.size w)
 clear hmx htb h
 go_enter Tryz.func6, Tryz.ntmps6
 by_cases hb300 : 300 < b.size
 ·have t3 : (300 : Int) < (b.size : Int) := by omega
  clear hb300
  go_wp2_with fail
  refine (sawake_any _ (HMX.out.below HB0.out)).mono ?_
  rintro e wz ⟨rfl, hbz⟩
  go_wp2_with fail
  go_ret
  exact ⟨rfl, HB0.out.trans (hbz.mono HB0.out.size)⟩
 ·have t3 : ¬ (300 : Int) < (b.size : Int) := by omega
  have HBS := hide (show b.size ≤ 300 by omega)
  clear hb300
  go_wp2_with fail
  refine (New_any l A0 n0 c0 _ K0.out).mono ?_
  rintro e w3 ⟨rfl, hdk3, hb3⟩
  obtain ⟨d, hd⟩ : ∃ d, w.heap.size = d := ⟨_, rfl⟩
  rw [hd] at hdk3 ⊢
  have hdw : w.heap.size ≤ d := by omega
  have HB3 := hide hb3
  have HDK3 := hide hdk3
  clear hdk3 hb3 hd t3
  go_wp2_with fail
  refine (Subtrees_any d _ HDK3.out).mono ?_
  rintro e w4 ⟨p, x, A1, A2, c1, c2, hgs, rfl, hslp, hslx, hdk4, hex4⟩
  have HB4 := hide (Ex.below HB3.out HB3.out.size hdw hex4)
  have hsm : SmallGs (p ++ x) := fun g hg => by
   rcases List.mem_append.1 hg with h | h
   ·exact hgs.small.1 g h
   ·exact hgs.small.2 g h
  have hkp : Sl RGen 3 w4 (Lt w4.heap.size) p [.slice A1 p.length c1] := (Sl.ok RGen.ok).mono hslp (fun _ _ => rfl) (fun _ hk => hk.2)
  have hkx : Sl RGen 3 w4 (Lt w4.heap.size) x [.slice A2 x.length c2] := (Sl.ok RGen.ok).mono hslx (fun _ _ => rfl) (fun _ hk => hk.2)
  have EN := hide (rSEncode_any p x A1 A2 c1 c2 hsm w4 (HMX.out.below HB4.out) hkp hkx)
  have HDK4 := hide hdk4
  obtain ⟨o, ho⟩ : ∃ o, encS (p, x) = o := ⟨_, rfl⟩
  have hol : o.1.length ≤ 131077 := by rw [← ho]; exact encS_len _
  rw [ho] at EN
  obtain ⟨E, hE⟩ : ∃ E : ByteArray, (⟨o.1.toArray⟩ : ByteArray) = E := ⟨_, rfl⟩
  have hEs : E.size ≤ 131077 := by rw [← hE, ba_mk]; exact hol
  obtain ⟨ke, hke⟩ : ∃ k, o.2 = k := ⟨_, rfl⟩
  have HWR := hide (show wrapR o = .tuple #[.string E, .int .i64 ke] by rw [wrapR, hE, hke])
  clear hgs hslp hslx hdk4 hex4 hsm hkp hkx ho hE hke hol
  go_wp2_with fail
  refine EN.out.mono ?_
  rintro e w5 ⟨rfl, hb5⟩
  rw [HWR.out]
  have HB5 := hide (HB4.out.trans (hb5.mono HB4.out.size))
  have HDK5 := hide (HDK4.out.below hb5)
  clear hb5
  go_wp2_with fail
  refine (Damage_any d E (by omega) _ HDK5.out).mono ?_
  rintro e w6 ⟨y1, hy1, rfl, hd6, hx6⟩
  have HB6 := hide (Ex.below HB5.out HB5.out.size hdw hx6)
  have HDK6 := hide hd6
  clear hd6 hx6
  go_wp2_with fail
  refine (Rewrap_any E.size d E _ (Nat.le_refl _) (by omega) HDK6.out).mono ?_
  rintro e w7 ⟨y2, hy2, rfl, hd7, hx7⟩
  have HB7 := hide (Ex.below HB6.out HB6.out.size hdw hx7)
  clear hd7 hx7
  obtain ⟨W0, hW0⟩ : ∃ W, W = w7.alloc (.cells #[.string b, .string E, .string y1, .string y2] 9) := ⟨_, rfl⟩
  have ht4 := S4t.new w7 b E y1 y2 (by have := HBS.out; omega) (by omega) (by omega) (by omega)
  rw [← hW0] at ht4
  have HBW := hide (show Below w.heap.size w W0 by rw [hW0]; exact HB7.out.alloc HB7.out.size _)
  have hg0 : w7.heap.size < W0.heap.size := by rw [hW0]; simp
  obtain ⟨g, hg⟩ : ∃ g, g = w7.heap.size := ⟨_, rfl⟩
  rw [← hg] at ht4 hg0
  have HT4 := hide ht4
  go_wp2_with fail
  rw [← hW0, ← hg]
  clear hW0 hg ht4
  go_loopw [36] (fun i wr => ∃ k : Nat, k ≤ 4 ∧ i = .int .i64 k ∧ Below W0.heap.size W0 wr) (fun i _ => 4 - (intOf i).toNat)
  case atStart => exact ⟨0, by omega, rfl, Below.refl _ _⟩
  case round =>
   obtain ⟨k, hk, rfl, hb⟩ := hrel
   obtain ⟨wq, rfl⟩ : ∃ wq : World, wq = wr := ⟨_, rfl⟩
   have HB := hide (HBW.out.trans (hb.mono HBW.out.size))
   by_cases hlt : k < 4
   ·have hlt4 : (k : Int) < 4 := by omega
    obtain ⟨z, hzs, hcell0⟩ := HT4.out k hlt
    have hcell := (hb.cell (p := ⟨g, k, none⟩) hg0).trans hcell0
    have HBr := hide hb
    obtain ⟨⟨kq, pp, xx⟩, ho⟩ : ∃ o, toS (decS z.data.toList) = o := ⟨_, rfl⟩
    have HO := hide ho
    clear hcell0 hb ho
    go_wp2_with fail
    refine (gDecodeS_any z (by omega) _ (HMX.out.below HB.out) (HTB.out.below HB.out)).mono ?_
    rintro e w8 ⟨Ap, Ax, cp, cx, he8, hp8, hx8, hb8⟩
    rw [HO.out] at he8 hp8 hx8
    simp only at he8 hp8 hx8
    subst he8
    obtain ⟨w9, hw9⟩ : ∃ W, W = w8.alloc (.cells #[.slice Ap pp.length cp, .slice Ax xx.length cx] 52) := ⟨_, rfl⟩
    obtain ⟨e0, e1⟩ := two_cells hw9
    have hb9 : Below w8.heap.size w8 w9 := by rw [hw9]; exact (Below.refl _ _).alloc (Nat.le_refl _) _
    have HB9r := hide (HBr.out.trans ((hb8.trans (hb9.mono hb8.size)).mono HBr.out.size))
    have HB9 := hide (HBW.out.trans (HB9r.out.mono HBW.out.size))
    have HP9 := hide ((Sl.ok RGen.ok).below hp8 hb9)
    have HX9 := hide ((Sl.ok RGen.ok).below hx8 hb9)
    clear hcell hp8 hx8 hb8 hb9
    go_upto_region 9 with fail
    rw [← hw9]
    clear hw9
    go_wp2_with fail
    refine (rDecodeS_any z (by omega) _ (HMX.out.below HB9.out) (HTB.out.below HB9.out)).mono ?_
    rintro e w10 ⟨Bp, Bx, bp, bx, he10, hp10, hx10, hb10⟩
    rw [HO.out] at he10 hp10 hx10
    simp only at he10 hp10 hx10
    subst he10
    obtain ⟨w11, hw11⟩ : ∃ W, W = w10.alloc (.cells #[.slice Bp pp.length bp, .slice Bx xx.length bx] 52) := ⟨_, rfl⟩
    obtain ⟨i0, i1⟩ := two_cells hw11
    have hb11 : Below w10.heap.size w10 w11 := by rw [hw11]; exact (Below.refl _ _).alloc (Nat.le_refl _) _
    have e0 := cell_grows hb11 _ _ (cell_grows hb10 _ _ e0)
    have e1 := cell_grows hb11 _ _ (cell_grows hb10 _ _ e1)
    have hbb : Below w9.heap.size w9 w11 := hb10.trans (hb11.mono hb10.size)
    have HB11r := hide (HB9r.out.trans (hbb.mono HB9r.out.size))
    have EX1 := hide (ExactGs_same pp Ap Bp cp bp w11 ((Sl.ok RGen.ok).below HP9.out hbb) ((Sl.ok RGen.ok).below hp10 hb11))
    have EX2 := hide (fun W (hb : Below w11.heap.size w11 W) => ExactGs_same xx Ax Bx cx bx W ((Sl.ok RGen.ok).below ((Sl.ok RGen.ok).below HX9.out hbb) hb) ((Sl.ok RGen.ok).below ((Sl.ok RGen.ok).below hx10 hb11) hb))
    have hqq : (kq != kq) = false := by simp
    clear hp10 hx10 hb10 hb11 hbb
    go_upto_region 10 with fail
    rw [← hw11]
    clear hw11
    go_wp2_with fail
    refine EX1.out.mono ?_
    rintro e w12 ⟨rfl, hb12⟩
    have e1 := cell_grows hb12 _ _ e1
    have i1 := cell_grows hb12 _ _ i1
    have HB12 := hide hb12
    clear hb12 e0 i0
    go_wp2_with fail
    refine (EX2.out _ HB12.out).mono ?_
    rintro e w13 ⟨rfl, hb13⟩
    have HB13 := hide (HB11r.out.trans ((HB12.out.trans (hb13.mono HB12.out.size)).mono HB11r.out.size))
    clear hb13 e1 i1
    go_wp2_with fail
    go_roundw
    case rel => exact ⟨k + 1, by omega, by go_num, HB13.out⟩
    case measure => simp [intOf]; omega
   ·clear hb
    go_wp2_with fail
    refine (sawake_any _ (HMX.out.below HB.out)).mono ?_
    rintro e wz ⟨rfl, hbz⟩
    go_wp2_with fail
    go_ret
    exact ⟨rfl, HB.out.trans (hbz.mono HB.out.size)⟩
end Go.Proofs.YtahamclodagihaaGreatDoor
