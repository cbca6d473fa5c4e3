/- The law GnameDecode, its walk. -/
import Derived.Test.YtinmfgbdadchjaaGreatDoorGGlA
import Derived.Test.YtinmfgbdadchjaaGreatDoorGcD
import Derived.Test.YtinmfgbdadchjaaGreatDoorGTlvJ
import Derived.Test.YtinmfgbdadchjaaGreatDoorGHosI
namespace Go.Proofs.YtinmfgbdadchjaaGreatDoor
open Go.RowKit
theorem one_val (l : List UInt8) : ∃ (t : Int) (x1 x2 : ByteArray) (k : Int), oneR (oneF l) = .tuple #[.agg #[.int .i64 t, .string x1, .string x2], .int .i64 k] ∧ x1.size ≤ 131072 := by
  cases h : oneF l with
  | error k => exact ⟨0, ⟨#[]⟩, ⟨#[]⟩, k, rfl, by decide⟩
  | ok p =>
    obtain ⟨t, c, raw⟩ := p
    have hw := one_is_wrap h
    refine ⟨(t : Int), ⟨c.toArray⟩, ⟨raw.toArray⟩, 0, rfl, ?_⟩
    rw [ba_mk]
    exact hw.2.2.1
def EB (g : Nat) (t : Int) (x1 x2 : ByteArray) (W : World) : Prop := W.heap[g]? = some (.cells #[.int .i64 t, .string x1, .string x2] 74 (0, 0))
theorem EB.facts {g : Nat} {t : Int} {x1 x2 : ByteArray} {W : World} (h : EB g t x1 x2 W) : W.cell? ⟨g, 0, none⟩ = some (.int .i64 t) ∧ W.cell? ⟨g, 1, none⟩ = some (.string x1) ∧ W.cell? ⟨g, 2, none⟩ = some (.string x2) := by
 unfold EB at h
 simp [World.cell?, h]
theorem EB.lt {g : Nat} {t : Int} {x1 x2 : ByteArray} {W : World} (h : EB g t x1 x2 W) : g < W.heap.size := (Array.getElem?_eq_some_iff.1 h).1
theorem EB.below {g : Nat} {t : Int} {x1 x2 : ByteArray} {W W' : World} (h : EB g t x1 x2 W) (hb : Below W.heap.size W W') : EB g t x1 x2 W' := (hb.block g h.lt).trans h
theorem EB.ex {g d : Nat} {t : Int} {x1 x2 : ByteArray} {W W' : World} (h : EB g t x1 x2 W) (hx : Ex d W W') (hd : g ≠ d) : EB g t x1 x2 W' := (hx.at_ h.lt hd).trans h
theorem EB.new (w : World) (t : Int) (x1 x2 : ByteArray) : EB w.heap.size t x1 x2 (w.alloc (.cells #[.int .i64 t, .string x1, .string x2] 74)) := heap_alloc_new w _
def E4 (g : Nat) (W : World) : Prop := ∀ k, k < 4 → ∃ (t : Int) (x1 x2 : ByteArray), x1.size ≤ 1000000 ∧ W.cell? ⟨g, k * 3, none⟩ = some (.int .i64 t) ∧ W.cell? ⟨g, k * 3 + 1, none⟩ = some (.string x1) ∧ W.cell? ⟨g, k * 3 + 2, none⟩ = some (.string x2)
theorem E4.new (w : World) (t1 t2 t3 t4 : Int) (a1 a2 a3 a4 b1 b2 b3 b4 : ByteArray) (h1 : a1.size ≤ 1000000) (h2 : a2.size ≤ 1000000) (h3 : a3.size ≤ 1000000) (h4 : a4.size ≤ 1000000) :
  E4 w.heap.size (w.alloc (.cells #[.int .i64 t1, .string a1, .string b1, .int .i64 t2, .string a2, .string b2, .int .i64 t3, .string a3, .string b3, .int .i64 t4, .string a4, .string b4] 74)) := fun k hk => by
 rw [World.cell?_alloc_new, World.cell?_alloc_new, World.cell?_alloc_new]
 match k, hk with
 | 0, _ => exact ⟨_, _, _, h1, rfl, rfl, rfl⟩
 | 1, _ => exact ⟨_, _, _, h2, rfl, rfl, rfl⟩
 | 2, _ => exact ⟨_, _, _, h3, rfl, rfl, rfl⟩
 | 3, _ => exact ⟨_, _, _, h4, rfl, rfl, rfl⟩
def StrV (N : Nat) (v : Value) : Prop := ∃ E : ByteArray, E.size ≤ N ∧ v = .string E
def IntV (v : Value) : Prop := ∃ k : Int, v = .int .i64 k
structure EJ (w4 : World) (d : Nat) (k : Int) (t : ByteArray) (v : Value) (dd : Nat → Bool) (val : Nat → Value) (W : World) : Prop where
 base : Ex d w4 W
 dk : DeckAt W d
 l39 : dd 0 = true → val 39 = .agg #[.int .i64 k, .string t, v]
 m40 : dd 1 = true → val 40 = .pointer (some ⟨d, 0, none⟩)
 c41 : dd 2 = true → IntV (val 41)
 b42 : dd 3 = true → ∃ b, val 42 = .bool b
 c43 : dd 4 = true → ∃ E ke, E.size ≤ 100010 ∧ val 43 = .tuple #[.string E, .int .i64 ke]
 m38 : dd 5 = true → ∃ E ke, E.size ≤ 100010 ∧ val 38 = .tuple #[.string E, .int .i64 ke]
 e44 : dd 6 = true → StrV 100010 (val 44)
 e45 : dd 7 = true → IntV (val 45)
 a7 : dd 8 = true → StrV 100010 (val 7)
 a8 : dd 9 = true → IntV (val 8)
set_option maxRecDepth 100000 in
set_option maxHeartbeats 16000000 in
theorem GnameDecode_any (rt : Int) (rc rr : ByteArray) (l : List Int) (A0 : Option Addr) (n0 c0 : Nat) (w : World) (hmx : Mx w) (htb : Tb w) (h : Sl RInt 1 w (Lt w.heap.size) l [.slice A0 n0 c0]) :
    Calls Tryz.prog 9 #[.agg #[.int .i64 rt, .string rc, .string rr], .slice A0 n0 c0] w fun e w' => e = .returned (.bool true) ∧ Below w.heap.size w w' := by
  have HMX := hide hmx
  have HTB := hide htb
  have K0 := hide h
  obtain ⟨wa, hwa⟩ : ∃ wa, wa = w.alloc (.cells #[.int .i64 rt, .string rc, .string rr] 74) := ⟨_, rfl⟩
  have hea : EB w.heap.size rt rc rr wa := by rw [hwa]; exact EB.new w _ _ _
  have hba : Below w.heap.size w wa := by rw [hwa]; exact (Below.refl _ _).alloc (Nat.le_refl _) _
  obtain ⟨gR, hgR⟩ : ∃ g, w.heap.size = g := ⟨_, rfl⟩
  rw [hgR] at hea
  have hga : gR < wa.heap.size := hea.lt
  obtain ⟨a0, a1, a2⟩ := hea.facts
  have HEA := hide hea
  have HBA := hide hba
  clear hmx htb h hea hba
  go_enter Tryz.func9, Tryz.ntmps9
  go_upto_region 1 with fail
  rw [← hwa]
  try rw [hgR]
  clear hwa
  by_cases hc3 : 300 < rc.size
  · have t3 : (300 : Int) < (rc.size : Int) := by omega
    clear hc3
    go_wp2_with fail
    refine (awake9_any _ (HMX.out.below HBA.out)).mono ?_
    rintro e wz ⟨rfl, hbz⟩
    go_wp2_with fail
    go_ret
    exact ⟨rfl, HBA.out.trans (hbz.mono HBA.out.size)⟩
  · have t3 : ¬ (300 : Int) < (rc.size : Int) := by omega
    by_cases hr3 : 300 < rr.size
    · have t4 : (300 : Int) < (rr.size : Int) := by omega
      clear hr3 hc3
      go_wp2_with fail
      refine (awake9_any _ (HMX.out.below HBA.out)).mono ?_
      rintro e wz ⟨rfl, hbz⟩
      go_wp2_with fail
      go_ret
      exact ⟨rfl, HBA.out.trans (hbz.mono HBA.out.size)⟩
    · have t4 : ¬ (300 : Int) < (rr.size : Int) := by omega
      have HRC := hide (show rc.size ≤ 300 by omega)
      clear hr3 hc3
      go_wp2_with fail
      refine (New_any l A0 n0 c0 _ ((Sl.ok RInt.ok).below K0.out HBA.out)).mono ?_
      rintro e w1 ⟨rfl, hdk1, hb1⟩
      obtain ⟨d, hd⟩ : ∃ d, wa.heap.size = d := ⟨_, rfl⟩
      rw [hd] at hdk1 ⊢
      have hwd : w.heap.size ≤ d := by omega
      have hRd : gR ≠ d := by omega
      have HB1 := hide (HBA.out.trans (hb1.mono HBA.out.size))
      have HE1 := hide (HEA.out.below hb1)
      have HDK1 := hide hdk1
      clear hdk1 hb1 hd t3 t4 a0 a1 a2 hga
      go_wp2_with fail
      refine (some_any d w1 HDK1.out).mono ?_
      rintro e w2 ⟨x, tx, Ax, cx, hgx, htx, rfl, hslx, hdk2, hex2⟩
      obtain ⟨kx, tx', nx⟩ := x
      simp only at htx hslx ⊢
      subst htx
      have hz1 := HDK1.out.lt
      have hz2 := hex2.size
      obtain ⟨w3, hw3⟩ : ∃ W, W = w2.alloc (.cells #[.int .i64 kx, .string tx, .slice Ax nx.length cx] 50) := ⟨_, rfl⟩
      have hb3 : Below w2.heap.size w2 w3 := by rw [hw3]; exact (Below.refl _ _).alloc (Nat.le_refl _) _
      have hg3 : GB w2.heap.size kx tx (.slice Ax nx.length cx) w3 := by rw [hw3]; exact heap_alloc_new w2 _
      obtain ⟨gS, hgS⟩ : ∃ g, w2.heap.size = g := ⟨_, rfl⟩
      rw [hgS] at hg3
      have hSd : gS ≠ d := by omega
      have HE3 := hide ((HE1.out.ex hex2 hRd).below hb3)
      have HB3 := hide ((Ex.below HB1.out HB1.out.size hwd hex2).trans (hb3.mono (Ex.below HB1.out HB1.out.size hwd hex2).size))
      have HDK3 := hide (hdk2.below hb3)
      have HSX := hide (show Sl RRdn 1 w3 (Nd d w3.heap.size) nx [.slice Ax nx.length cx] from (Sl.ok RRdn.ok).mono hslx (fun j hj => hb3.block j hj.2) (fun j hj => ⟨Nat.lt_of_lt_of_le hj.2 hb3.size, by have := hj.1; omega⟩))
      have HG3 := hide hg3
      have HSG := hide (show tx.size ≤ 100000 ∧ SmallN nx from ⟨by rw [← size_string]; exact hgx.1, hgx.2⟩)
      have HSM := hide hgx
      clear hgx hslx hdk2 hex2 hb3 hg3 hz2
      go_upto_region 5 with fail
      rw [← hw3]
      try rw [hgS]
      clear hw3 hgS
      refine region_inv [39, 40, 41, 42, 43, 38, 44, 45, 7, 8] (EJ w3 d kx tx (.slice Ax nx.length cx)) (by kernel_rfl) (by kernel_rfl) (fun val => ⟨(Ex.refl d w3).drew, HDK3.out.drewN 1, nofun, nofun, nofun, nofun, nofun, nofun, nofun, nofun, nofun, nofun⟩) ⟨?_, ?_, ?_, ?_, ?_, ?_, ?_, ?_, ?_, ?_, trivial⟩ ?_
      · refine ⟨fun s hs => by cases hs <;> decide, ?_⟩
        rintro dd val W hJ hd hdep K hK
        rw [if_pos (by rfl)]
        dsimp only [putF, List.foldl, Act.put] at hK ⊢
        simp only [List.setIfInBounds_toArray, List.set_cons_zero, List.set_cons_succ] at hK ⊢
        obtain ⟨m0, m1, m2, -, -, -⟩ := (HG3.out.ex hJ.base hSd).facts
        go_simp
        exact hK.out _ _ { base := hJ.base, dk := hJ.dk, l39 := fun _ => rfl, m40 := hJ.m40, c41 := hJ.c41, b42 := hJ.b42, c43 := hJ.c43, m38 := hJ.m38, e44 := hJ.e44, e45 := hJ.e45, a7 := hJ.a7, a8 := hJ.a8 }
      · refine ⟨fun s hs => by cases hs <;> decide, ?_⟩
        rintro dd val W hJ hd hdep K hK
        rw [if_pos (by rfl)]
        dsimp only [putF, List.foldl, Act.put] at hK ⊢
        simp only [List.setIfInBounds_toArray, List.set_cons_zero, List.set_cons_succ] at hK ⊢
        go_simp
        exact hK.out _ _ { base := hJ.base, dk := hJ.dk, l39 := hJ.l39, m40 := fun _ => rfl, c41 := hJ.c41, b42 := hJ.b42, c43 := hJ.c43, m38 := hJ.m38, e44 := hJ.e44, e45 := hJ.e45, a7 := hJ.a7, a8 := hJ.a8 }
      · refine ⟨fun s hs => by cases hs <;> decide, ?_⟩
        rintro dd val W hJ hd hdep K hK
        rw [if_pos (by rfl)]
        dsimp only [putF, List.foldl, Act.put] at hK ⊢
        simp only [List.setIfInBounds_toArray, List.set_cons_zero, List.set_cons_succ] at hK ⊢
        have e40 := hJ.m40 (hdep ⟨1, .data⟩ (by simp) rfl)
        simp only [e40] at hK ⊢
        go_simp
        refine (Next_any d 2 (by omega) (by omega) W hJ.dk).mono ?_
        rintro e w4 ⟨v, hv, rfl, hdk4, hex4⟩
        go_wp2_with fail
        exact hK.out _ _ { base := hJ.base.trans hex4, dk := hdk4, l39 := hJ.l39, m40 := hJ.m40, c41 := fun _ => ⟨_, rfl⟩, b42 := hJ.b42, c43 := hJ.c43, m38 := hJ.m38, e44 := hJ.e44, e45 := hJ.e45, a7 := hJ.a7, a8 := hJ.a8 }
      · refine ⟨fun s hs => by cases hs <;> decide, ?_⟩
        rintro dd val W hJ hd hdep K hK
        rw [if_pos (by rfl)]
        dsimp only [putF, List.foldl, Act.put] at hK ⊢
        simp only [List.setIfInBounds_toArray, List.set_cons_zero, List.set_cons_succ] at hK ⊢
        obtain ⟨k, e41⟩ := hJ.c41 (hdep ⟨2, .data⟩ (by simp) rfl)
        simp only [e41] at hK ⊢
        go_simp
        exact hK.out _ _ { base := hJ.base, dk := hJ.dk, l39 := hJ.l39, m40 := hJ.m40, c41 := hJ.c41, b42 := fun _ => ⟨_, rfl⟩, c43 := hJ.c43, m38 := hJ.m38, e44 := hJ.e44, e45 := hJ.e45, a7 := hJ.a7, a8 := hJ.a8 }
      · refine ⟨fun s hs => by cases hs <;> decide, ?_⟩
        rintro dd val W hJ hd hdep K hK
        rw [if_pos (by rfl)]
        dsimp only [putF, List.foldl, Act.put] at hK ⊢
        simp only [List.setIfInBounds_toArray, List.set_cons_zero, List.set_cons_succ] at hK ⊢
        have e39 := hJ.l39 (hdep ⟨0, .data⟩ (by simp) rfl)
        obtain ⟨bb, e42⟩ := hJ.b42 (hdep ⟨3, .data⟩ (by simp) rfl)
        simp only [e39, e42] at hK ⊢
        have hbw : Below w.heap.size w W := Ex.below HB3.out HB3.out.size hwd hJ.base
        go_simp
        refine (rEncodeG_any kx tx nx bb Ax cx HSG.out.1 HSG.out.2 W (HMX.out.below hbw) ((Sl.ok RRdn.ok).lt ((Sl.ok RRdn.ok).ex HSX.out hJ.base))).mono ?_
        rintro e w4 ⟨rfl, hb4⟩
        rw [wrapR]
        have hsz : (⟨(encG (kx, tx.data.toList, nx) bb).1.toArray⟩ : ByteArray).size ≤ 100010 := by
          rw [ba_mk, encG]
          split
          · rename_i hc
            exact encGB_len hc HSM.out.1
          · show ([] : List UInt8).length ≤ _
            simp
        go_wp2_with fail
        exact hK.out _ _ { base := hJ.base.trans (Ex.of_below hb4), dk := hJ.dk.below hb4, l39 := hJ.l39, m40 := hJ.m40, c41 := hJ.c41, b42 := hJ.b42, c43 := fun _ => ⟨_, _, hsz, rfl⟩, m38 := hJ.m38, e44 := hJ.e44, e45 := hJ.e45, a7 := hJ.a7, a8 := hJ.a8 }
      · refine ⟨fun s hs => by cases hs <;> decide, ?_⟩
        rintro dd val W hJ hd hdep K hK
        rw [if_pos (by rfl)]
        dsimp only [putF, List.foldl, Act.put] at hK ⊢
        simp only [List.setIfInBounds_toArray, List.set_cons_zero, List.set_cons_succ] at hK ⊢
        obtain ⟨E, ke, hE, e43⟩ := hJ.c43 (hdep ⟨4, .data⟩ (by simp) rfl)
        simp only [e43] at hK ⊢
        go_simp
        exact hK.out _ _ { base := hJ.base, dk := hJ.dk, l39 := hJ.l39, m40 := hJ.m40, c41 := hJ.c41, b42 := hJ.b42, c43 := hJ.c43, m38 := fun _ => ⟨E, ke, hE, rfl⟩, e44 := hJ.e44, e45 := hJ.e45, a7 := hJ.a7, a8 := hJ.a8 }
      · refine ⟨fun s hs => by cases hs <;> decide, ?_⟩
        rintro dd val W hJ hd hdep K hK
        rw [if_pos (by rfl)]
        dsimp only [putF, List.foldl, Act.put] at hK ⊢
        simp only [List.setIfInBounds_toArray, List.set_cons_zero, List.set_cons_succ] at hK ⊢
        obtain ⟨E, ke, hE, e38⟩ := hJ.m38 (hdep ⟨5, .data⟩ (by simp) rfl)
        simp only [e38] at hK ⊢
        go_simp
        exact hK.out _ _ { base := hJ.base, dk := hJ.dk, l39 := hJ.l39, m40 := hJ.m40, c41 := hJ.c41, b42 := hJ.b42, c43 := hJ.c43, m38 := hJ.m38, e44 := fun _ => ⟨E, hE, rfl⟩, e45 := hJ.e45, a7 := hJ.a7, a8 := hJ.a8 }
      · refine ⟨fun s hs => by cases hs <;> decide, ?_⟩
        rintro dd val W hJ hd hdep K hK
        rw [if_pos (by rfl)]
        dsimp only [putF, List.foldl, Act.put] at hK ⊢
        simp only [List.setIfInBounds_toArray, List.set_cons_zero, List.set_cons_succ] at hK ⊢
        obtain ⟨E, ke, hE, e38⟩ := hJ.m38 (hdep ⟨5, .data⟩ (by simp) rfl)
        simp only [e38] at hK ⊢
        go_simp
        exact hK.out _ _ { base := hJ.base, dk := hJ.dk, l39 := hJ.l39, m40 := hJ.m40, c41 := hJ.c41, b42 := hJ.b42, c43 := hJ.c43, m38 := hJ.m38, e44 := hJ.e44, e45 := fun _ => ⟨ke, rfl⟩, a7 := hJ.a7, a8 := hJ.a8 }
      · refine ⟨fun s hs => by cases hs <;> decide, ?_⟩
        rintro dd val W hJ hd hdep K hK
        rw [if_pos (by rfl)]
        dsimp only [putF, List.foldl, Act.put] at hK ⊢
        simp only [List.setIfInBounds_toArray, List.set_cons_zero, List.set_cons_succ] at hK ⊢
        obtain ⟨E, hE, e44⟩ := hJ.e44 (hdep ⟨6, .data⟩ (by simp) rfl)
        simp only [e44] at hK ⊢
        go_simp
        exact hK.out _ _ { base := hJ.base, dk := hJ.dk, l39 := hJ.l39, m40 := hJ.m40, c41 := hJ.c41, b42 := hJ.b42, c43 := hJ.c43, m38 := hJ.m38, e44 := hJ.e44, e45 := hJ.e45, a7 := fun _ => ⟨E, hE, rfl⟩, a8 := hJ.a8 }
      · refine ⟨fun s hs => by cases hs <;> decide, ?_⟩
        rintro dd val W hJ hd hdep K hK
        rw [if_pos (by rfl)]
        dsimp only [putF, List.foldl, Act.put] at hK ⊢
        simp only [List.setIfInBounds_toArray, List.set_cons_zero, List.set_cons_succ] at hK ⊢
        obtain ⟨ke, e45⟩ := hJ.e45 (hdep ⟨7, .data⟩ (by simp) rfl)
        simp only [e45] at hK ⊢
        go_simp
        exact hK.out _ _ { base := hJ.base, dk := hJ.dk, l39 := hJ.l39, m40 := hJ.m40, c41 := hJ.c41, b42 := hJ.b42, c43 := hJ.c43, m38 := hJ.m38, e44 := hJ.e44, e45 := hJ.e45, a7 := hJ.a7, a8 := fun _ => ⟨ke, rfl⟩ }
      · rintro dd val W hall hJ
        obtain ⟨k41, e41⟩ := hJ.c41 (hall 2 (by decide))
        obtain ⟨bb, e42⟩ := hJ.b42 (hall 3 (by decide))
        obtain ⟨E3, ke3, -, e43⟩ := hJ.c43 (hall 4 (by decide))
        obtain ⟨E2, ke2, -, e38⟩ := hJ.m38 (hall 5 (by decide))
        obtain ⟨E44, -, e44⟩ := hJ.e44 (hall 6 (by decide))
        obtain ⟨k45, e45⟩ := hJ.e45 (hall 7 (by decide))
        obtain ⟨S, hS, e7⟩ := hJ.a7 (hall 8 (by decide))
        obtain ⟨k8, e8⟩ := hJ.a8 (hall 9 (by decide))
        have e39 := hJ.l39 (hall 0 (by decide))
        have e40 := hJ.m40 (hall 1 (by decide))
        have HBW := hide (Ex.below HB3.out HB3.out.size hwd hJ.base)
        have HDKW := hide hJ.dk
        have HEW := hide (HE3.out.ex hJ.base hRd)
        dsimp only [putF, List.foldl, Act.put]
        simp only [List.setIfInBounds_toArray, List.set_cons_zero, List.set_cons_succ]
        simp only [e38, e39, e40, e41, e42, e43, e44, e45, e7, e8]
        clear hJ hall e38 e39 e40 e41 e42 e43 e44 e45 e7 e8
        go_wp2_with fail
        refine (Rewrap_any S.size d S W (Nat.le_refl _) (by omega) HDKW.out).mono ?_
        rintro e w5 ⟨y1, hy1, rfl, hdk5, hx5⟩
        have HB5 := hide (Ex.below HBW.out HBW.out.size hwd hx5)
        have HDK5 := hide hdk5
        have HE5 := hide (HEW.out.ex hx5 hRd)
        clear hdk5 hx5
        go_wp2_with fail
        refine (rOne_any y1 (by omega) w5).mono ?_
        rintro e w6 ⟨rfl, hb6⟩
        obtain ⟨p1, q1, r1, k1, he1, hq1⟩ := one_val y1.data.toList
        rw [he1]
        have HDK6 := hide (HDK5.out.below hb6)
        have HE6 := hide (HE5.out.below hb6)
        have HB6 := hide (HB5.out.trans (hb6.mono HB5.out.size))
        clear hb6 he1
        go_upto_region 7 with fail
        obtain ⟨w7, hw7⟩ : ∃ W, W = w6.alloc (.cells #[.int .i64 p1, .string q1, .string r1] 74) := ⟨_, rfl⟩
        have hb7 : Below w6.heap.size w6 w7 := by rw [hw7]; exact (Below.refl _ _).alloc (Nat.le_refl _) _
        have h91 : EB w6.heap.size p1 q1 r1 w7 := by rw [hw7]; exact EB.new w6 _ _ _
        have HDK7 := hide (HDK6.out.below hb7)
        have HE7 := hide (HE6.out.below hb7)
        have HB7 := hide (HB6.out.trans (hb7.mono HB6.out.size))
        obtain ⟨g1, hg1⟩ : ∃ g, w6.heap.size = g := ⟨_, rfl⟩
        rw [hg1] at h91
        have h1d : g1 ≠ d := by have := HDK6.out.lt; omega
        have H91 := hide h91
        rw [← hw7]
        try rw [hg1]
        clear hb7 h91 hw7 hg1
        go_wp2_with fail
        refine (Damage_any d S (by omega) w7 HDK7.out).mono ?_
        rintro e w8 ⟨y2, hy2, rfl, hdk8, hx8⟩
        have HB8 := hide (Ex.below HB7.out HB7.out.size hwd hx8)
        have HE8 := hide (HE7.out.ex hx8 hRd)
        have H92 := hide (H91.out.ex hx8 h1d)
        clear hdk8 hx8
        go_wp2_with fail
        refine (rOne_any y2 (by omega) w8).mono ?_
        rintro e w9 ⟨rfl, hb9⟩
        obtain ⟨p2, q2, r2, k2, he2, hq2⟩ := one_val y2.data.toList
        rw [he2]
        have HE9 := hide (HE8.out.below hb9)
        have H93 := hide (H92.out.below hb9)
        have HB9 := hide (HB8.out.trans (hb9.mono HB8.out.size))
        clear hb9 he2
        go_upto_region 8 with fail
        obtain ⟨w10, hw10⟩ : ∃ W, W = w9.alloc (.cells #[.int .i64 p2, .string q2, .string r2] 74) := ⟨_, rfl⟩
        have hb10 : Below w9.heap.size w9 w10 := by rw [hw10]; exact (Below.refl _ _).alloc (Nat.le_refl _) _
        have h21 : EB w9.heap.size p2 q2 r2 w10 := by rw [hw10]; exact EB.new w9 _ _ _
        have HE10 := hide (HE9.out.below hb10)
        have H94 := hide (H93.out.below hb10)
        have HB10 := hide (HB9.out.trans (hb10.mono HB9.out.size))
        obtain ⟨g2, hg2⟩ : ∃ g, w9.heap.size = g := ⟨_, rfl⟩
        rw [hg2] at h21
        have H21 := hide h21
        rw [← hw10]
        try rw [hg2]
        clear hb10 h21 hw10 hg2
        go_wp2_with fail
        refine (rOne_any S (by omega) w10).mono ?_
        rintro e w11 ⟨rfl, hb11⟩
        obtain ⟨p3, q3, r3, k3, he3, hq3⟩ := one_val S.data.toList
        rw [he3]
        have HE11 := hide (HE10.out.below hb11)
        have H95 := hide (H94.out.below hb11)
        have H22 := hide (H21.out.below hb11)
        have HB11 := hide (HB10.out.trans (hb11.mono HB10.out.size))
        clear hb11 he3
        go_upto_region 9 with fail
        obtain ⟨w12, hw12⟩ : ∃ W, W = w11.alloc (.cells #[.int .i64 p3, .string q3, .string r3] 74) := ⟨_, rfl⟩
        have hb12 : Below w11.heap.size w11 w12 := by rw [hw12]; exact (Below.refl _ _).alloc (Nat.le_refl _) _
        have h31 : EB w11.heap.size p3 q3 r3 w12 := by rw [hw12]; exact EB.new w11 _ _ _
        have HB12 := hide (HB11.out.trans (hb12.mono HB11.out.size))
        obtain ⟨i0, i1, i2⟩ := (HE11.out.below hb12).facts
        obtain ⟨j0, j1, j2⟩ := (H95.out.below hb12).facts
        obtain ⟨m0, m1, m2⟩ := (H22.out.below hb12).facts
        obtain ⟨g3, hg3⟩ : ∃ g, w11.heap.size = g := ⟨_, rfl⟩
        rw [hg3] at h31
        obtain ⟨n0', n1', n2'⟩ := h31.facts
        rw [← hw12]
        try rw [hg3]
        clear hb12 h31 hw12 hg3
        obtain ⟨wE, hwE⟩ : ∃ W, W = w12.alloc (.cells #[.int .i64 rt, .string rc, .string rr, .int .i64 p1, .string q1, .string r1, .int .i64 p2, .string q2, .string r2, .int .i64 p3, .string q3, .string r3] 74) := ⟨_, rfl⟩
        have he4 := E4.new w12 rt p1 p2 p3 rc q1 q2 q3 rr r1 r2 r3 (by have := HRC.out; omega) (by omega) (by omega) (by omega)
        rw [← hwE] at he4
        have HBE := hide (show Below w.heap.size w wE by rw [hwE]; exact HB12.out.alloc HB12.out.size _)
        have hgE : w12.heap.size < wE.heap.size := by rw [hwE]; simp
        obtain ⟨gE, hgE'⟩ : ∃ g, w12.heap.size = g := ⟨_, rfl⟩
        rw [hgE'] at he4 hgE
        have HE4 := hide he4
        go_upto_region 10 with fail
        rw [← hwE]
        try rw [hgE']
        clear hwE hgE' he4 i0 i1 i2 j0 j1 j2 m0 m1 m2 n0' n1' n2'
        go_loopw [71] (fun i wr => ∃ k : Nat, k ≤ 4 ∧ i = .int .i64 k ∧ Below wE.heap.size wE wr) (fun i _ => 4 - (intOf i).toNat)
        case atStart => exact ⟨0, by omega, rfl, Below.refl _ _⟩
        case round =>
          obtain ⟨k, hk, rfl, hb⟩ := hrel
          have HB := hide (HBE.out.trans (hb.mono HBE.out.size))
          by_cases hlt : k < 4
          · have hlt4 : (k : Int) < 4 := by omega
            obtain ⟨t, x1, x2, hx1, d0, d1, d2⟩ := HE4.out k hlt
            have f0 := (hb.cell (p := ⟨gE, k * 3, none⟩) hgE).trans d0
            have f1 := (hb.cell (p := ⟨gE, k * 3 + 1, none⟩) hgE).trans d1
            have f2 := (hb.cell (p := ⟨gE, k * 3 + 2, none⟩) hgE).trans d2
            have HTS := hide hx1
            obtain ⟨wy, hwy⟩ : ∃ W, W = wr.alloc (.cells #[.int .i64 t, .string x1, .string x2] 74) := ⟨_, rfl⟩
            obtain ⟨wx, hwx⟩ : ∃ W, W = wy.alloc (.cells #[.bool false, .bool true] 4) := ⟨_, rfl⟩
            have hzy : wy.heap.size = wr.heap.size + 1 := by rw [hwy]; simp
            obtain ⟨p0, p1'⟩ := two_cells hwx
            have hey : EB wr.heap.size t x1 x2 wy := by rw [hwy]; exact EB.new wr _ _ _
            have hby : Below wr.heap.size wr wy := by rw [hwy]; exact (Below.refl _ _).alloc (Nat.le_refl _) _
            have hbx : Below wy.heap.size wy wx := by rw [hwx]; exact (Below.refl _ _).alloc (Nat.le_refl _) _
            have hex : EB wr.heap.size t x1 x2 wx := hey.below hbx
            have hbyx : Below wr.heap.size wr wx := hby.trans (hbx.mono hby.size)
            have HBX := hide (HB.out.trans (hbyx.mono HB.out.size))
            have HBXW := hide (hb.trans (hbyx.mono hb.size))
            have hzx : wx.heap.size = wr.heap.size + 1 + 1 := by rw [hwx]; simp [hzy]
            rw [hzy] at p0 p1'
            obtain ⟨gx, hgx'⟩ : ∃ g, wr.heap.size = g := ⟨_, rfl⟩
            rw [hgx'] at hex p0 p1' hzx
            obtain ⟨gb, hgb'⟩ : ∃ g, gx + 1 = g := ⟨_, rfl⟩
            rw [hgb'] at p0 p1'
            have hgb1 : gb < wx.heap.size := by omega
            have HEX := hide hex
            have P0 := hide p0
            have P1 := hide p1'
            have HWX := hide hwx
            have HWY := hide hwy
            have HGG := hide (And.intro hgx' hgb')
            clear d0 d1 d2 hx1 hb hwx hwy hzy hey hby hbx hbyx hex hzx p0 p1' hgx' hgb'
            go_upto_region 13 with fail
            rw [← HWY.out, ← HWX.out]
            try rw [HGG.out.1]
            try rw [HGG.out.2]
            clear f0 f1 f2
            go_loopw [77] (fun i wi => ∃ j : Nat, j ≤ 2 ∧ i = .int .i64 j ∧ Below wx.heap.size wx wi) (fun i _ => 2 - (intOf i).toNat)
            case atStart => exact ⟨0, by omega, rfl, Below.refl _ _⟩
            case round =>
              obtain ⟨j, hj, rfl, hbi⟩ := hrel
              obtain ⟨wi, rfl⟩ : ∃ wi : World, wi = wr := ⟨_, rfl⟩
              have HBI := hide hbi
              obtain ⟨z0, z1, z2⟩ := (HEX.out.below hbi).facts
              match j, hj with
              | 0, _ =>
                have r0' := (hbi.cell (p := ⟨gb, 0, none⟩) hgb1).trans P0.out
                clear hbi
                obtain ⟨o, ho⟩ : ∃ o, toG (decG t x1.data.toList false) = o := ⟨_, rfl⟩
                have HO := hide ho
                have DN := hide (fun W (hb : Below wx.heap.size wx W) => gDecode_any t x1 x2 false HTS.out W (HMX.out.below (HBX.out.trans (hb.mono HBX.out.size))) (HTB.out.below (HBX.out.trans (hb.mono HBX.out.size))))
                have RDN := hide (fun W (hb : Below wx.heap.size wx W) => rDecodeG_any t x1 x2 false HTS.out W (HMX.out.below (HBX.out.trans (hb.mono HBX.out.size))) (HTB.out.below (HBX.out.trans (hb.mono HBX.out.size))))
                rw [ho] at DN RDN
                clear ho
                go_wp2_with fail
                refine (DN.out _ HBI.out).mono ?_
                rintro e w5 ⟨t5, A5, c5, rfl, ht5, hsl5, hb5, hmed5⟩
                obtain ⟨kq, kb, tb, nb⟩ := o
                simp only at ht5 hsl5 hmed5 ⊢
                have HB5 := hide (HBI.out.trans (hb5.mono HBI.out.size))
                have z0 := cell_grows hb5 _ _ z0
                have z1 := cell_grows hb5 _ _ z1
                have z2 := cell_grows hb5 _ _ z2
                have hsl5 := (Sl.ok RRdn.ok).mono hsl5 (fun _ _ => rfl) (S' := Lt w5.heap.size) (fun _ hj => hj.2)
                clear hb5 r0' hmed5
                go_upto_region 16 with fail
                obtain ⟨w6, hw6⟩ : ∃ W, W = w5.alloc (.cells #[.int .i64 kb, .string t5, .slice A5 nb.length c5] 50) := ⟨_, rfl⟩
                have hb6 : Below w5.heap.size w5 w6 := by rw [hw6]; exact (Below.refl _ _).alloc (Nat.le_refl _) _
                have hg6 : GB w5.heap.size kb t5 (.slice A5 nb.length c5) w6 := by rw [hw6]; exact heap_alloc_new w5 _
                have hsl6 := (Sl.ok RRdn.ok).below hsl5 hb6
                have z0 := cell_grows hb6 _ _ z0
                have z1 := cell_grows hb6 _ _ z1
                have z2 := cell_grows hb6 _ _ z2
                have HB6 := hide (HB5.out.trans (hb6.mono HB5.out.size))
                obtain ⟨g5, hg5⟩ : ∃ g, w5.heap.size = g := ⟨_, rfl⟩
                rw [hg5] at hg6
                rw [← hw6]
                try rw [hg5]
                have HG6 := hide hg6
                have HS6 := hide hsl6
                clear hsl5 hsl6 hb6 hw6 hg5 hg6
                go_wp2_with fail
                refine (RDN.out _ HB6.out).mono ?_
                rintro e w7 ⟨t7, A7, c7, rfl, ht7, hsl7, hb7, hmed7⟩
                simp only at ht7 hsl7 ⊢
                have HB7 := hide (HB6.out.trans (hb7.mono HB6.out.size))
                have HG7 := hide (HG6.out.below hb7)
                have HS7 := hide ((Sl.ok RRdn.ok).below HS6.out hb7)
                have hsl7 := (Sl.ok RRdn.ok).mono hsl7 (fun _ _ => rfl) (S' := Lt w7.heap.size) (fun _ hj => hj.2)
                clear hb7 z0 z1 z2 hmed7
                go_upto_region 17 with fail
                obtain ⟨w8, hw8⟩ : ∃ W, W = w7.alloc (.cells #[.int .i64 kb, .string t7, .slice A7 nb.length c7] 50) := ⟨_, rfl⟩
                have hb8 : Below w7.heap.size w7 w8 := by rw [hw8]; exact (Below.refl _ _).alloc (Nat.le_refl _) _
                have hg8 : GB w7.heap.size kb t7 (.slice A7 nb.length c7) w8 := by rw [hw8]; exact heap_alloc_new w7 _
                have HB8 := hide (HB7.out.trans (hb8.mono HB7.out.size))
                have hs5 := (Sl.ok RRdn.ok).below HS7.out hb8
                have hs7 := (Sl.ok RRdn.ok).below hsl7 hb8
                obtain ⟨f0, f1, f2, -, -, -⟩ := (HG7.out.below hb8).facts
                obtain ⟨g7, hg7⟩ : ∃ g, w7.heap.size = g := ⟨_, rfl⟩
                rw [hg7] at hg8
                obtain ⟨e0, e1, e2, -, -, -⟩ := hg8.facts
                rw [← hw8]
                try rw [hg7]
                clear hw8 hg7 hsl7
                obtain ⟨w9, hw9⟩ : ∃ W, W = w8.alloc (.cells #[.int .i64 kb, .string t5, .slice A5 nb.length c5] 50) := ⟨_, rfl⟩
                have hb9 : Below w8.heap.size w8 w9 := by rw [hw9]; exact (Below.refl _ _).alloc (Nat.le_refl _) _
                have hq1 := one_gen9 (g := ((kb, tb, nb) : Gen)) (T := 50) ht5 hs5 (fun _ h => h)
                rw [← hw9] at hq1
                have hz9 : w9.heap.size = w8.heap.size + 1 := by rw [hw9]; simp
                obtain ⟨w10, hw10⟩ : ∃ W, W = w9.alloc (.cells #[.int .i64 kb, .string t7, .slice A7 nb.length c7] 50) := ⟨_, rfl⟩
                have hb10 : Below w9.heap.size w9 w10 := by rw [hw10]; exact (Below.refl _ _).alloc (Nat.le_refl _) _
                have hq2 := one_gen9 (g := ((kb, tb, nb) : Gen)) (T := 50) ht7 ((Sl.ok RRdn.ok).below hs7 hb9) (fun _ h => h)
                rw [← hw10, hz9] at hq2
                have e0' := cell_grows hb9 _ _ e0
                have e1' := cell_grows hb9 _ _ e1
                have e2' := cell_grows hb9 _ _ e2
                rw [hw9] at e0' e1' e2'
                have EX := hide (show Calls Tryz.prog 44 #[.slice (some ⟨w8.heap.size, 0, none⟩) 1 1, .slice (some ⟨w8.heap.size + 1, 0, none⟩) 1 1] w10 (fun e w' => e = .returned (.bool true) ∧ Below w10.heap.size w10 w') from ExactGs_same [((kb, tb, nb) : Gen)] (some ⟨w8.heap.size, 0, none⟩) (some ⟨w8.heap.size + 1, 0, none⟩) 1 1 w10 ((Sl.ok RGen.ok).below hq1 hb10) hq2)
                have HB10 := hide (HB8.out.trans ((hb9.trans (hb10.mono hb9.size)).mono HB8.out.size))
                have HW9 := hide hw9
                have HW10 := hide hw10
                have s3 : (kq != kq) = false := by simp
                clear hq1 hq2 hs5 hs7 hb8 hg8 hb9 hb10 hz9 hw9 hw10 ht5 ht7
                rw [HW10.out, HW9.out] at EX
                go_wp2_with fail
                refine EX.out.mono ?_
                rintro e wn ⟨rfl, hbn⟩
                rw [← HW9.out, ← HW10.out] at hbn
                have HBN := hide (HB10.out.trans (hbn.mono HB10.out.size))
                clear hbn f0 f1 f2 e0 e1 e2 e0' e1' e2'
                go_wp2_with fail
                go_roundw
                case rel => exact ⟨0 + 1, by omega, by go_num, HBN.out⟩
                case measure => simp [intOf]
              | 1, _ =>
                have r1' := (hbi.cell (p := ⟨gb, 1, none⟩) hgb1).trans P1.out
                clear hbi
                obtain ⟨o, ho⟩ : ∃ o, toG (decG t x1.data.toList true) = o := ⟨_, rfl⟩
                have HO := hide ho
                have DN := hide (fun W (hb : Below wx.heap.size wx W) => gDecode_any t x1 x2 true HTS.out W (HMX.out.below (HBX.out.trans (hb.mono HBX.out.size))) (HTB.out.below (HBX.out.trans (hb.mono HBX.out.size))))
                have RDN := hide (fun W (hb : Below wx.heap.size wx W) => rDecodeG_any t x1 x2 true HTS.out W (HMX.out.below (HBX.out.trans (hb.mono HBX.out.size))) (HTB.out.below (HBX.out.trans (hb.mono HBX.out.size))))
                rw [ho] at DN RDN
                clear ho
                go_wp2_with fail
                refine (DN.out _ HBI.out).mono ?_
                rintro e w5 ⟨t5, A5, c5, rfl, ht5, hsl5, hb5, hmed5⟩
                obtain ⟨kq, kb, tb, nb⟩ := o
                simp only at ht5 hsl5 hmed5 ⊢
                have HB5 := hide (HBI.out.trans (hb5.mono HBI.out.size))
                have z0 := cell_grows hb5 _ _ z0
                have z1 := cell_grows hb5 _ _ z1
                have z2 := cell_grows hb5 _ _ z2
                have hsl5 := (Sl.ok RRdn.ok).mono hsl5 (fun _ _ => rfl) (S' := Lt w5.heap.size) (fun _ hj => hj.2)
                clear hb5 r1' hmed5
                go_upto_region 16 with fail
                obtain ⟨w6, hw6⟩ : ∃ W, W = w5.alloc (.cells #[.int .i64 kb, .string t5, .slice A5 nb.length c5] 50) := ⟨_, rfl⟩
                have hb6 : Below w5.heap.size w5 w6 := by rw [hw6]; exact (Below.refl _ _).alloc (Nat.le_refl _) _
                have hg6 : GB w5.heap.size kb t5 (.slice A5 nb.length c5) w6 := by rw [hw6]; exact heap_alloc_new w5 _
                have hsl6 := (Sl.ok RRdn.ok).below hsl5 hb6
                have z0 := cell_grows hb6 _ _ z0
                have z1 := cell_grows hb6 _ _ z1
                have z2 := cell_grows hb6 _ _ z2
                have HB6 := hide (HB5.out.trans (hb6.mono HB5.out.size))
                obtain ⟨g5, hg5⟩ : ∃ g, w5.heap.size = g := ⟨_, rfl⟩
                rw [hg5] at hg6
                rw [← hw6]
                try rw [hg5]
                have HG6 := hide hg6
                have HS6 := hide hsl6
                clear hsl5 hsl6 hb6 hw6 hg5 hg6
                go_wp2_with fail
                refine (RDN.out _ HB6.out).mono ?_
                rintro e w7 ⟨t7, A7, c7, rfl, ht7, hsl7, hb7, hmed7⟩
                simp only at ht7 hsl7 ⊢
                have HB7 := hide (HB6.out.trans (hb7.mono HB6.out.size))
                have HG7 := hide (HG6.out.below hb7)
                have HS7 := hide ((Sl.ok RRdn.ok).below HS6.out hb7)
                have hsl7 := (Sl.ok RRdn.ok).mono hsl7 (fun _ _ => rfl) (S' := Lt w7.heap.size) (fun _ hj => hj.2)
                clear hb7 z0 z1 z2 hmed7
                go_upto_region 17 with fail
                obtain ⟨w8, hw8⟩ : ∃ W, W = w7.alloc (.cells #[.int .i64 kb, .string t7, .slice A7 nb.length c7] 50) := ⟨_, rfl⟩
                have hb8 : Below w7.heap.size w7 w8 := by rw [hw8]; exact (Below.refl _ _).alloc (Nat.le_refl _) _
                have hg8 : GB w7.heap.size kb t7 (.slice A7 nb.length c7) w8 := by rw [hw8]; exact heap_alloc_new w7 _
                have HB8 := hide (HB7.out.trans (hb8.mono HB7.out.size))
                have hs5 := (Sl.ok RRdn.ok).below HS7.out hb8
                have hs7 := (Sl.ok RRdn.ok).below hsl7 hb8
                obtain ⟨f0, f1, f2, -, -, -⟩ := (HG7.out.below hb8).facts
                obtain ⟨g7, hg7⟩ : ∃ g, w7.heap.size = g := ⟨_, rfl⟩
                rw [hg7] at hg8
                obtain ⟨e0, e1, e2, -, -, -⟩ := hg8.facts
                rw [← hw8]
                try rw [hg7]
                clear hw8 hg7 hsl7
                obtain ⟨w9, hw9⟩ : ∃ W, W = w8.alloc (.cells #[.int .i64 kb, .string t5, .slice A5 nb.length c5] 50) := ⟨_, rfl⟩
                have hb9 : Below w8.heap.size w8 w9 := by rw [hw9]; exact (Below.refl _ _).alloc (Nat.le_refl _) _
                have hq1 := one_gen9 (g := ((kb, tb, nb) : Gen)) (T := 50) ht5 hs5 (fun _ h => h)
                rw [← hw9] at hq1
                have hz9 : w9.heap.size = w8.heap.size + 1 := by rw [hw9]; simp
                obtain ⟨w10, hw10⟩ : ∃ W, W = w9.alloc (.cells #[.int .i64 kb, .string t7, .slice A7 nb.length c7] 50) := ⟨_, rfl⟩
                have hb10 : Below w9.heap.size w9 w10 := by rw [hw10]; exact (Below.refl _ _).alloc (Nat.le_refl _) _
                have hq2 := one_gen9 (g := ((kb, tb, nb) : Gen)) (T := 50) ht7 ((Sl.ok RRdn.ok).below hs7 hb9) (fun _ h => h)
                rw [← hw10, hz9] at hq2
                have e0' := cell_grows hb9 _ _ e0
                have e1' := cell_grows hb9 _ _ e1
                have e2' := cell_grows hb9 _ _ e2
                rw [hw9] at e0' e1' e2'
                have EX := hide (show Calls Tryz.prog 44 #[.slice (some ⟨w8.heap.size, 0, none⟩) 1 1, .slice (some ⟨w8.heap.size + 1, 0, none⟩) 1 1] w10 (fun e w' => e = .returned (.bool true) ∧ Below w10.heap.size w10 w') from ExactGs_same [((kb, tb, nb) : Gen)] (some ⟨w8.heap.size, 0, none⟩) (some ⟨w8.heap.size + 1, 0, none⟩) 1 1 w10 ((Sl.ok RGen.ok).below hq1 hb10) hq2)
                have HB10 := hide (HB8.out.trans ((hb9.trans (hb10.mono hb9.size)).mono HB8.out.size))
                have HW9 := hide hw9
                have HW10 := hide hw10
                have s3 : (kq != kq) = false := by simp
                clear hq1 hq2 hs5 hs7 hb8 hg8 hb9 hb10 hz9 hw9 hw10 ht5 ht7
                rw [HW10.out, HW9.out] at EX
                go_wp2_with fail
                refine EX.out.mono ?_
                rintro e wn ⟨rfl, hbn⟩
                rw [← HW9.out, ← HW10.out] at hbn
                have HBN := hide (HB10.out.trans (hbn.mono HB10.out.size))
                clear hbn f0 f1 f2 e0 e1 e2 e0' e1' e2'
                go_wp2_with fail
                go_roundw
                case rel => exact ⟨1 + 1, by omega, by go_num, HBN.out⟩
                case measure => simp [intOf]
              | 2, _ =>
                clear z0 z1 z2
                have HBO := hide (HBXW.out.trans (hbi.mono HBXW.out.size))
                clear hbi
                go_wp2_with fail
                go_roundw
                case rel => exact ⟨k + 1, by omega, by go_num, HBO.out⟩
                case measure => simp [intOf]; omega
          · clear hb
            go_wp2_with fail
            refine (awake9_any _ (HMX.out.below HB.out)).mono ?_
            rintro e wz ⟨rfl, hbz⟩
            go_wp2_with fail
            go_ret
            exact ⟨rfl, HB.out.trans (hbz.mono HB.out.size)⟩
end Go.Proofs.YtinmfgbdadchjaaGreatDoor
