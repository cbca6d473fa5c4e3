/- The law NameText, its walk. -/
import Derived.Test.YtahamclodagihaaGreatDoorNNtC
import Derived.Test.YtahamclodagihaaGreatDoorNNtD
import Derived.Test.YtahamclodagihaaGreatDoorNGNamY
import Derived.Test.YtahamclodagihaaGreatDoorNGNamD
import Derived.Test.YtahamclodagihaaGreatDoorNGNenI
import Derived.Test.YtahamclodagihaaGreatDoorNNamG
namespace Go.Proofs.YtahamclodagihaaGreatDoor
open Go.RowKit
theorem GoodN.fmt_len {n : Name} (h : GoodN n) : (fmtB n).length ≤ 15615 := by
 have hok := ((chkN_iff n).1 h.chk).2
 have := join_len 44 5204 (n.map fun r => fmtR (sortR r)) (fun x hx => by
  obtain ⟨r, hr, rfl⟩ := List.mem_map.1 hx
  exact fmtR_len (hok r hr).2.1 (hok r hr).2.2.1)
 rw [List.length_map] at this
 have h3 : n.length * 5205 ≤ 3 * 5205 := Nat.mul_le_mul_right _ h.1
 rw [fmtB]; omega
set_option maxRecDepth 100000 in
set_option maxHeartbeats 16000000 in
theorem NameText_any (a : Name) (Aa : Option Addr) (ca : Nat) (l : List Int) (A0 : Option Addr) (n0 c0 : Nat) (w : World) (hmx : Mx w) (ha : Sl RRdn 1 w (Lt w.heap.size) a [.slice Aa a.length ca]) (h : Sl RInt 1 w (Lt w.heap.size) l [.slice A0 n0 c0]) :
  Calls Tryz.prog 4 #[.agg #[.slice Aa a.length ca], .slice A0 n0 c0] w fun e w' => e = .returned (.bool true) ∧ Below w.heap.size w w' := by
 have HMX := hide hmx
 have K := hide h
 have KA := hide ha
 obtain ⟨qa, hqa⟩ : ∃ q, shortN a = q := ⟨_, rfl⟩
 have QA := hide hqa
 obtain ⟨w0, hw0⟩ : ∃ w0, w0 = w.alloc (.cells #[.slice Aa a.length ca] 24) := ⟨_, rfl⟩
 have hA0 : NB w.heap.size (.slice Aa a.length ca) w0 := by rw [hw0]; exact heap_alloc_new w _
 have hb0 : Below w.heap.size w w0 := by rw [hw0]; exact (Below.refl _ _).alloc (Nat.le_refl _) _
 obtain ⟨gR, hgR⟩ : ∃ g, w.heap.size = g := ⟨_, rfl⟩
 have HGR := hide hgR
 rw [hgR] at hA0
 have HB0 := hide hb0
 have NA := hide hA0
 have hnba := hA0.facts.1
 have HW0 := hide hw0
 clear hmx h ha hqa hA0 hb0 hw0 hgR
 go_enter Tryz.func4, Tryz.ntmps4
 go_upto_region 1 with (fail)
 rw [← HW0.out, HGR.out]
 go_wp2_with fail
 refine (Short_any a Aa ca _ ((Sl.ok RRdn.ok).below KA.out HB0.out) qa QA.out).mono ?_
 rintro e w1 ⟨rfl, hb1⟩
 have HB1 := hide (HB0.out.trans (hb1.mono HB0.out.size))
 have NA1 := hide (NA.out.below hb1)
 clear hb1 hnba
 cases qa
 ·go_wp2_with fail
  refine (nawake_any _ (HMX.out.below HB1.out)).mono ?_
  rintro e wz ⟨rfl, hbz⟩
  go_wp2_with fail
  go_ret
  exact ⟨rfl, (HB1.out).trans (hbz.mono (HB1.out).size)⟩
 ·have SMA := hide (shortN_small QA.out)
  go_wp2_with fail
  refine (New_any l A0 n0 c0 _ ((Sl.ok RInt.ok).below K.out HB1.out)).mono ?_
  rintro e w3 ⟨rfl, hdk3, hb3⟩
  obtain ⟨d, hd⟩ : ∃ d, d = w1.heap.size := ⟨_, rfl⟩
  have hgRd : gR < d := by rw [hd]; exact NA1.out.lt
  rw [← hd] at hdk3 ⊢
  have HB3 := hide (HB1.out.trans (hb3.mono HB1.out.size))
  have HDK3 := hide hdk3
  have NA3 := hide (NA1.out.below hb3)
  have HWD := hide (show w.heap.size ≤ d by have := HB1.out.size; omega)
  clear hd hb3 hdk3
  go_wp2_with fail
  refine (Name_any d _ HDK3.out).mono ?_
  rintro e w4 ⟨m, vm, hgm, rfl, hsl4, hdk4, hex4⟩
  obtain ⟨A1, c1, hvm⟩ := hsl4.shape
  subst hvm
  have HB4 := hide (Ex.below HB3.out HB3.out.size HWD.out hex4)
  obtain ⟨w5, hw5⟩ : ∃ W, W = w4.alloc (.cells #[.slice A1 m.length c1] 24) := ⟨_, rfl⟩
  have hb45 : Below w4.heap.size w4 w5 := by rw [hw5]; exact (Below.refl _ _).alloc (Nat.le_refl _) _
  have hnm : NB w4.heap.size (.slice A1 m.length c1) w5 := by rw [hw5]; exact heap_alloc_new w4 _
  obtain ⟨gn, hgn⟩ : ∃ g, w4.heap.size = g := ⟨_, rfl⟩
  rw [hgn] at hnm
  have NA5 := hide ((NA3.out.ex hex4 (by omega)).below hb45)
  have NM5 := hide hnm
  have HB5 := hide (HB4.out.trans (hb45.mono HB4.out.size))
  have HSM5 := hide (show Sl RRdn 1 w5 (Lt w5.heap.size) m [.slice A1 m.length c1] from (Sl.ok RRdn.ok).below ((Sl.ok RRdn.ok).mono hsl4 (S' := Lt w4.heap.size) (fun _ _ => rfl) (fun k hk => hk.2)) hb45)
  have SMM := hide (hgm.bnd.small (by omega))
  have HGM := hide hgm
  clear hgm hsl4 hdk4 hex4 hb45 hnm
  go_upto_region 4 with (fail)
  rw [← hw5]
  try rw [hgn]
  clear hw5 hgn
  obtain ⟨r0, -⟩ := NA5.out.facts
  obtain ⟨m0, -⟩ := NM5.out.facts
  obtain ⟨w8, hw8⟩ : ∃ W, W = w5.alloc (.cells #[.slice Aa a.length ca, .slice A1 m.length c1] 24) := ⟨_, rfl⟩
  have hb58 : Below w5.heap.size w5 w8 := by rw [hw8]; exact (Below.refl _ _).alloc (Nat.le_refl _) _
  have hq2 : ∀ k, k < 2 → ∃ (x : Name) (A : Option Addr) (c : Nat), w8.cell? ⟨w5.heap.size, k, none⟩ = some (.slice A x.length c) ∧ Sl RRdn 1 w8 (Lt w8.heap.size) x [.slice A x.length c] ∧ SmallN x := fun k hk => by
   match k, hk with
   | 0, _ => exact ⟨a, Aa, ca, by rw [hw8, World.cell?_alloc_new]; rfl, (Sl.ok RRdn.ok).below ((Sl.ok RRdn.ok).below KA.out HB5.out) hb58, SMA.out⟩
   | 1, _ => exact ⟨m, _, _, by rw [hw8, World.cell?_alloc_new]; rfl, (Sl.ok RRdn.ok).below HSM5.out hb58, SMM.out⟩
  have hg0 : w5.heap.size < w8.heap.size := by rw [hw8]; simp
  have HB8 := hide (HB5.out.trans (hb58.mono HB5.out.size))
  have NM8 := hide (NM5.out.below hb58)
  have HSM8 := hide ((Sl.ok RRdn.ok).below HSM5.out hb58)
  obtain ⟨g8, hg8⟩ : ∃ g, w5.heap.size = g := ⟨_, rfl⟩
  rw [hg8] at hq2 hg0
  have HQ2 := hide hq2
  clear hb58 hq2
  go_wp2_with fail
  rw [← hw8]
  try rw [hg8]
  clear hw8 hg8 r0 m0
  go_loopw [27] (fun i wr => ∃ k : Nat, k ≤ 2 ∧ i = .int .i64 k ∧ Below w8.heap.size w8 wr) (fun i _ => 2 - (intOf i).toNat)
  case atStart => exact ⟨0, by omega, rfl, Below.refl _ _⟩
  case round =>
   obtain ⟨k, hk, rfl, hb⟩ := hrel
   obtain ⟨w9, rfl⟩ : ∃ wq : World, wq = wr := ⟨_, rfl⟩
   have HB := hide (HB8.out.trans (hb.mono HB8.out.size))
   have HBr := hide hb
   by_cases hlt : k < 2
   ·have hlti : (k : Int) < 2 := by omega
    obtain ⟨x, A, c, d0, hsl, hsm⟩ := HQ2.out k hlt
    have p0 := (hb.cell (p := ⟨g8, k, none⟩) hg0).trans d0
    obtain ⟨wx, hwx⟩ : ∃ W, W = w9.alloc (.cells #[.slice A x.length c] 24) := ⟨_, rfl⟩
    have hbx : Below w9.heap.size w9 wx := by rw [hwx]; exact (Below.refl _ _).alloc (Nat.le_refl _) _
    have hnx : NB w9.heap.size (.slice A x.length c) wx := by rw [hwx]; exact heap_alloc_new w9 _
    obtain ⟨gx, hgx⟩ : ∃ g, w9.heap.size = g := ⟨_, rfl⟩
    rw [hgx] at hnx
    have HBX := hide (HB.out.trans (hbx.mono HB.out.size))
    have HBXr := hide (HBr.out.trans (hbx.mono HBr.out.size))
    have KN := hide ((Sl.ok RRdn.ok).below ((Sl.ok RRdn.ok).below hsl hb) hbx)
    have HSN := hide hsm
    obtain ⟨o, ho⟩ : ∃ o, fmtN x = o := ⟨_, rfl⟩
    have EN := hide (fun W (hb : Below wx.heap.size wx W) => Format_any x A c W (HMX.out.below (HBX.out.trans (hb.mono HBX.out.size))) ((Sl.ok RRdn.ok).below KN.out hb) HSN.out)
    have REN := hide (fun W (hb : Below wx.heap.size wx W) => rFormatName_any x A c W (HMX.out.below (HBX.out.trans (hb.mono HBX.out.size))) ((Sl.ok RRdn.ok).below KN.out hb) HSN.out)
    rw [ho] at EN REN
    obtain ⟨E, hE⟩ : ∃ E : ByteArray, (⟨o.1.toArray⟩ : ByteArray) = E := ⟨_, rfl⟩
    obtain ⟨ke, hke⟩ : ∃ k, o.2 = k := ⟨_, rfl⟩
    have HWR := hide (show wrapR o = .tuple #[.string E, .int .i64 ke] by rw [wrapR, hE, hke])
    have s2 : (E.toList != E.toList) = false := by simp
    have s3 : (ke != ke) = false := by simp
    obtain ⟨z0, -⟩ := hnx.facts
    clear ho hE hke hb d0 hsl hsm hbx hnx
    go_upto_region 7 with fail
    rw [← hwx]
    try rw [hgx]
    clear hwx hgx p0
    go_wp2_with fail
    refine (EN.out _ (Below.refl _ _)).mono ?_
    rintro e w5 ⟨rfl, hb5⟩
    rw [HWR.out]
    have HB5 := hide hb5
    have z0 := cell_grows hb5 _ _ z0
    clear hb5
    go_wp2_with fail
    refine (REN.out _ HB5.out).mono ?_
    rintro e w6 ⟨rfl, hb6⟩
    rw [HWR.out]
    have HBN := hide (HBXr.out.trans ((HB5.out.trans (hb6.mono HB5.out.size)).mono HBXr.out.size))
    clear hb6 z0
    go_wp2_with fail
    go_roundw
    case rel => exact ⟨k + 1, by omega, by go_num, HBN.out⟩
    case measure => simp [intOf]; omega
   ·have HSM9 := hide ((Sl.ok RRdn.ok).below HSM8.out hb)
    have hm9 := (NM8.out.below hb).facts.1
    have NM9 := hide (NM8.out.below hb)
    obtain ⟨E, hE⟩ : ∃ E : ByteArray, E = ⟨(fmtB m).toArray⟩ := ⟨_, rfl⟩
    have HWR := hide (show wrapR (fmtN m) = .tuple #[.string E, .int .i64 0] by rw [fmtN, if_pos HGM.out.chk, wrapR, hE])
    obtain ⟨p, hp1, hp2, -⟩ := parse_fmt HGM.out
    have hEs : E.size ≤ 100000 := by
     rw [hE, ba_mk]
     have := HGM.out.fmt_len
     omega
    have HPE := hide (show parseP E.data.toList = (0, p) by rw [hE]; exact hp1)
    have HMM := hide hp2
    clear hb hE hp1 hp2
    go_wp2_with fail
    refine (Format_any m A1 c1 _ (HMX.out.below HB.out) HSM9.out SMM.out).mono ?_
    rintro e wA ⟨rfl, hbA⟩
    rw [HWR.out]
    have HBA := hide (HB.out.trans (hbA.mono HB.out.size))
    have HSMA := hide ((Sl.ok RRdn.ok).below HSM9.out hbA)
    have NMA := hide (NM9.out.below hbA)
    clear hbA hm9
    go_wp2_with fail
    refine (Parse_c E hEs 0 p HPE.out _ (HMX.out.below HBA.out)).mono ?_
    rintro e wB ⟨B, cB, rfl, hslB, hbB, hsmB⟩
    obtain ⟨wC, hwC⟩ : ∃ W, W = wB.alloc (.cells #[.slice B p.length cB] 24) := ⟨_, rfl⟩
    have hbC : Below wB.heap.size wB wC := by rw [hwC]; exact (Below.refl _ _).alloc (Nat.le_refl _) _
    have hnp : NB wB.heap.size (.slice B p.length cB) wC := by rw [hwC]; exact heap_alloc_new wB _
    obtain ⟨gp, hgp⟩ : ∃ g, wB.heap.size = g := ⟨_, rfl⟩
    rw [hgp] at hnp
    have HBC := hide (HBA.out.trans ((hbB.trans (hbC.mono hbB.size)).mono HBA.out.size))
    have HSMC := hide ((Sl.ok RRdn.ok).below ((Sl.ok RRdn.ok).below HSMA.out hbB) hbC)
    have NMC := hide ((NMA.out.below hbB).below hbC)
    have NPC := hide hnp
    have HSPC := hide ((Sl.ok RRdn.ok).below hslB hbC)
    have HSMB := hide hsmB
    clear hslB hbB hsmB hbC hnp
    go_upto_region 14 with fail
    rw [← hwC]
    try rw [hgp]
    clear hwC hgp
    go_wp2_with fail
    refine (nawake_any _ (HMX.out.below HBC.out)).mono ?_
    rintro e wD ⟨rfl, hbD⟩
    have HBD := hide (HBC.out.trans (hbD.mono HBC.out.size))
    have HSMD := hide ((Sl.ok RRdn.ok).below HSMC.out hbD)
    have HSPD := hide ((Sl.ok RRdn.ok).below HSPC.out hbD)
    have f1 := (NMC.out.below hbD).facts.1
    have f2 := (NPC.out.below hbD).facts.1
    clear hbD
    go_wp2_with fail
    refine (rMatch_v2 m p A1 B c1 cB true HMM.out _ HSMD.out HSPD.out SMM.out HSMB.out).mono ?_
    rintro e wE ⟨rfl, hbE⟩
    go_wp2_with fail
    go_ret
    exact ⟨rfl, HBD.out.trans (hbE.mono HBD.out.size)⟩
end Go.Proofs.YtahamclodagihaaGreatDoor
