/- The law GnameBack, its walk. -/
import Derived.Test.YtmgnihmjjijdoaaGreatDoorGtD
import Derived.Test.YtmgnihmjjijdoaaGreatDoorGmA
import Derived.Test.YtmgnihmjjijdoaaGreatDoorGSbM
import Derived.Test.YtmgnihmjjijdoaaGreatDoorGGnX
import Derived.Test.YtmgnihmjjijdoaaGreatDoorGGlA
import Derived.Test.YtmgnihmjjijdoaaGreatDoorGLibI
namespace Go.Proofs.YtmgnihmjjijdoaaGreatDoor
open Go.RowKit

/-- what a made general name satisfies -/
structure OkG (c : Bool) (g : Gen) : Prop where
  chk : chkG g c = 0
  back : backG g = true
  fmt : (fmtG g).1.length ≤ 100000
  len : g.2.1.length ≤ 100
  small : SmallG g
theorem mlen_1 : ∀ t ∈ gMail, (fmtG (1, t, [])).1.length ≤ 100000 ∧ t.length ≤ 100 := by decide +kernel
theorem mlen_2 : ∀ t ∈ gDns, (fmtG (2, t, [])).1.length ≤ 100000 ∧ t.length ≤ 100 := by decide +kernel
theorem mlen_7 : ∀ t ∈ gAddr, (fmtG (7, t, [])).1.length ≤ 100000 ∧ t.length ≤ 100 := by decide +kernel
theorem blen_1 : ∀ t ∈ bMail, (fmtG (1, t, [])).1.length ≤ 100000 ∧ t.length ≤ 100 := by decide +kernel
theorem blen_2 : ∀ t ∈ bDns, (fmtG (2, t, [])).1.length ≤ 100000 ∧ t.length ≤ 100 := by decide +kernel
theorem blen_7 : ∀ t ∈ bAddr, (fmtG (7, t, [])).1.length ≤ 100000 ∧ t.length ≤ 100 := by decide +kernel
theorem dlen {n : Name} (h : GoodN n) : (fmtG (4, [], n)).1.length ≤ 100000 := by
  have h2 := fmtB_len h.chk
  have hf : fmtG (4, [], n) = (wDir ++ fmtB n, 0) := by
    unfold fmtG
    rw [if_neg (show ¬ (4 : Int) = 1 by decide), if_neg (show ¬ (4 : Int) = 2 by decide), if_neg (show ¬ (4 : Int) = 7 by decide), if_pos rfl, fmtD, if_pos h.chk]
  rw [hf]
  show (wDir ++ fmtB n).length ≤ _
  rw [List.length_append]
  have : wDir.length = 4 := rfl
  omega
theorem GoodGen.okG {g : Gen} (h : GoodGen g) : OkG false g := by
  refine ⟨h.chk, h.back, ?_, ?_, h.small⟩
  · rcases h with ⟨t, ht, rfl⟩ | ⟨t, ht, rfl⟩ | ⟨t, ht, rfl⟩ | ⟨n, hn, rfl⟩
    · exact (mlen_1 t ht).1
    · exact (mlen_2 t ht).1
    · exact (mlen_7 t ht).1
    · exact dlen hn
  · rcases h with ⟨t, ht, rfl⟩ | ⟨t, ht, rfl⟩ | ⟨t, ht, rfl⟩ | ⟨n, hn, rfl⟩
    · exact (mlen_1 t ht).2
    · exact (mlen_2 t ht).2
    · exact (mlen_7 t ht).2
    · show ([] : List UInt8).length ≤ 100; decide
theorem GoodBase.okG {g : Gen} (h : GoodBase g) : OkG true g := by
  refine ⟨h.chk, h.back, ?_, ?_, h.small⟩
  · rcases h with ⟨t, ht, rfl⟩ | ⟨t, ht, rfl⟩ | ⟨t, ht, rfl⟩ | ⟨n, hn, rfl⟩
    · exact (blen_1 t ht).1
    · exact (blen_2 t ht).1
    · exact (blen_7 t ht).1
    · exact dlen hn
  · rcases h with ⟨t, ht, rfl⟩ | ⟨t, ht, rfl⟩ | ⟨t, ht, rfl⟩ | ⟨n, hn, rfl⟩
    · exact (blen_1 t ht).2
    · exact (blen_2 t ht).2
    · exact (blen_7 t ht).2
    · show ([] : List UInt8).length ≤ 100; decide
theorem two_gen7 {w : World} {S : Nat → Prop} {g1 g2 : Gen} {t1 t2 : ByteArray} {A1 A2 : Option Addr} {c1 c2 : Nat} {T : TypeId} (ht1 : t1.data.toList = g1.2.1) (ht2 : t2.data.toList = g2.2.1)
    (h1 : Sl RRdn 1 w S g1.2.2 [.slice A1 g1.2.2.length c1]) (h2 : Sl RRdn 1 w S g2.2.2 [.slice A2 g2.2.2.length c2]) (hS : ∀ k, S k → k < w.heap.size) :
    Sl RGen 3 (w.alloc (.cells #[.int .i64 g1.1, .string t1, .slice A1 g1.2.2.length c1, .int .i64 g2.1, .string t2, .slice A2 g2.2.2.length c2] T)) (Lt (w.alloc (.cells #[.int .i64 g1.1, .string t1, .slice A1 g1.2.2.length c1, .int .i64 g2.1, .string t2, .slice A2 g2.2.2.length c2] T)).heap.size) [g1, g2] [.slice (some ⟨w.heap.size, 0, none⟩) 2 2] := by
  refine ⟨_, _, rfl, Nat.le_refl _, by simp [maxLen], fun _ => ⟨w.heap.size, 0, rfl, by show w.heap.size < _; simp, fun i x hx => ?_⟩⟩
  match i, hx with
  | 0, hx =>
    simp at hx; subst hx
    refine ⟨[.int .i64 g1.1, .string t1, .slice A1 g1.2.2.length c1], ⟨_, by rw [← ht1], (Sl.ok RRdn.ok).mono h1 (fun k hk => Below.heap_alloc _ _ k (hS k hk)) (fun k hk => by show k < _; have := hS k hk; simp; omega)⟩, fun j u hu => ?_⟩
    rw [World.cell?_alloc_new]
    match j, hu with
    | 0, hu => simpa using hu
    | 1, hu => simpa using hu
    | 2, hu => simpa using hu
  | 1, hx =>
    simp at hx; subst hx
    refine ⟨[.int .i64 g2.1, .string t2, .slice A2 g2.2.2.length c2], ⟨_, by rw [← ht2], (Sl.ok RRdn.ok).mono h2 (fun k hk => Below.heap_alloc _ _ k (hS k hk)) (fun k hk => by show k < _; have := hS k hk; simp; omega)⟩, fun j u hu => ?_⟩
    rw [World.cell?_alloc_new]
    match j, hu with
    | 0, hu => simpa using hu
    | 1, hu => simpa using hu
    | 2, hu => simpa using hu
theorem oneR_ok {l : List UInt8} {e : Elt} (h : oneF l = .ok e) : oneR (oneF l) = .tuple #[.agg #[.int .i64 (e.1 : Int), .string ⟨e.2.1.toArray⟩, .string ⟨e.2.2.toArray⟩], .int .i64 0] := by
  rw [h]; rfl
/-- a made list is decoded as it was encoded -/
theorem list_back {L : List Gen} (h : ∀ g ∈ L, OkG false g) (h2 : L.length = 2) : encGL L = (L.flatMap encGB, 0) ∧ decGLs (L.flatMap encGB) = .ok (L.map sortG) ∧ sameGsB L (L.map sortG) = true ∧ (L.flatMap encGB).length ≤ 300000 := by
  obtain ⟨es, e1, e2, e3, e4⟩ := list_encG false L (fun g hg => (h g hg).chk) (fun g hg => by have := (h g hg).len; omega)
  have hc : cntE L.length = 0 := (cntE_iff _).2 (by omega)
  have hk : chkGs false L = 0 := (chkGs_iff false L).2 (fun g hg => (h g hg).chk)
  refine ⟨by rw [encGL, if_pos hc, if_pos hk], ?_, e4, ?_⟩
  · rw [decGLs, e1, decLL, if_pos (by rw [e2]; exact hc), e3]
  · have := gflat_len false L (fun g hg => (h g hg).chk) (fun g hg => (h g hg).small)
    rw [h2] at this
    omega
theorem finT_len {k : Int} {N : Nat} : ∀ {o : Option (List UInt8)}, (∀ t, o = some t → t.length ≤ N) → (finT k o).2.2.1.length ≤ N
  | none, _ => by show ([] : List UInt8).length ≤ N; simp
  | some t, h => by
    rw [finT]
    split
    · show ([] : List UInt8).length ≤ N; simp
    · exact h t rfl
theorem parseG_len (s : List UInt8) : (parseG s).2.2.1.length ≤ s.length := by
  have hd : ∀ n, (s.drop n).length ≤ s.length := fun n => by rw [List.length_drop]; omega
  unfold parseG
  split
  · exact finT_len (fun t h => Nat.le_trans (unesc_len h) (hd _))
  · split
    · exact finT_len (fun t h => Nat.le_trans (unesc_len h) (hd _))
    · split
      · unfold finD
        split
        · show ([] : List UInt8).length ≤ _; simp
        · show ([] : List UInt8).length ≤ _; simp
      · split
        · exact finT_len (fun t h => Nat.le_trans (unhexL_len h) (hd _))
        · show ([] : List UInt8).length ≤ _; simp
/-- the state of the region that lays the list -/
structure BJ (w1 : World) (d : Nat) (a : Gen) (ta : ByteArray) (Aa : Option Addr) (ca : Nat) (dd : Nat → Bool) (val : Nat → Value) (W : World) : Prop where
  base : Ex d w1 W
  dk : DeckAt W d
  l29 : dd 0 = true → val 29 = .agg #[.int .i64 a.1, .string ta, .slice Aa a.2.2.length ca]
  m30 : dd 1 = true → val 30 = .pointer (some ⟨d, 0, none⟩)
  s31 : dd 2 = true → ∃ (x : Gen) (tx : ByteArray) (Ax : Option Addr) (cx : Nat), OkG false x ∧ tx.data.toList = x.2.1 ∧ val 31 = .agg #[.int .i64 x.1, .string tx, .slice Ax x.2.2.length cx] ∧ Sl RRdn 1 W (Lt W.heap.size) x.2.2 [.slice Ax x.2.2.length cx]
  b32 : dd 3 = true → ∃ (g : Nat) (L : List Gen), val 32 = .slice (some ⟨g, 0, none⟩) 2 2 ∧ L.length = 2 ∧ (∀ g ∈ L, OkG false g) ∧ Sl RGen 3 W (Lt W.heap.size) L [.slice (some ⟨g, 0, none⟩) 2 2]
  a6 : dd 4 = true → ∃ (g : Nat) (L : List Gen), val 6 = .slice (some ⟨g, 0, none⟩) 2 2 ∧ L.length = 2 ∧ (∀ g ∈ L, OkG false g) ∧ Sl RGen 3 W (Lt W.heap.size) L [.slice (some ⟨g, 0, none⟩) 2 2]
  q3 : dd 3 = true → dd 2 = true
  q4 : dd 4 = true → dd 3 = true

set_option maxRecDepth 100000 in
set_option maxHeartbeats 16000000 in
theorem GnameBack_any (l : List Int) (A0 : Option Addr) (n0 c0 : Nat) (w : World) (hmx : Mx w) (htb : Tb w) (h : Sl RInt 1 w (Lt w.heap.size) l [.slice A0 n0 c0]) :
    Calls Tryz.prog 4 #[.slice A0 n0 c0] w fun e w' => e = .returned (.bool true) ∧ Below w.heap.size w w' := by
  have HMX := hide hmx
  have HTB := hide htb
  have K0 := hide h
  clear hmx htb h
  go_enter Tryz.func4, Tryz.ntmps4
  go_wp2_with fail
  refine (New_any l A0 n0 c0 _ K0.out).mono ?_
  rintro e w3 ⟨rfl, hdk3, hb3⟩
  obtain ⟨d, hd⟩ : ∃ d, w.heap.size = d := ⟨_, rfl⟩
  rw [hd] at hdk3 ⊢
  have hwd : w.heap.size ≤ d := by omega
  have HB3 := hide hb3
  have HDK3 := hide hdk3
  clear hb3 hdk3 hd
  go_wp2_with fail
  refine (General_any d _ HDK3.out).mono ?_
  rintro e w4 ⟨x8, t8, A8, c8, hg8, ht8, rfl, hsl8, hdk4, hex4⟩
  have HDK4 := hide hdk4
  clear hdk4
  go_wp2_with fail
  refine (Base_any d _ HDK4.out).mono ?_
  rintro e w5 ⟨x9, t9, A9, c9, hg9, ht9, rfl, hsl9, hdk5, hex5⟩
  obtain ⟨k8, t8', n8⟩ := x8
  obtain ⟨k9, t9', n9⟩ := x9
  simp only at ht8 hsl8 ht9 hsl9 ⊢
  subst ht8
  subst ht9
  obtain ⟨w6, hw6⟩ : ∃ w6, w6 = w5.alloc (.cells #[.int .i64 k8, .string t8, .slice A8 n8.length c8] 26) := ⟨_, rfl⟩
  obtain ⟨w7, hw7⟩ : ∃ w7, w7 = w6.alloc (.cells #[.int .i64 k9, .string t9, .slice A9 n9.length c9] 26) := ⟨_, rfl⟩
  have hz6 : w6.heap.size = w5.heap.size + 1 := by rw [hw6]; simp
  have b56 : Below w5.heap.size w5 w6 := by rw [hw6]; exact (Below.refl _ _).alloc (Nat.le_refl _) _
  have b67 : Below w6.heap.size w6 w7 := by rw [hw7]; exact (Below.refl _ _).alloc (Nat.le_refl _) _
  have b57 := b56.trans (b67.mono b56.size)
  have hd3 := HDK3.out.lt
  have hz4 := hex4.size
  have hz5 := hex5.size
  have HB5 := hide (Ex.below HB3.out HB3.out.size hwd (hex4.trans hex5))
  have HB7 := hide (HB5.out.trans (b57.mono HB5.out.size))
  have HDK7 := hide (hdk5.below b57)
  have I8 := hide (show GB w5.heap.size k8 t8 (.slice A8 n8.length c8) w7 from GB.below (by rw [hw6]; exact heap_alloc_new w5 _) b67)
  have I9 := hide (show GB (w5.heap.size + 1) k9 t9 (.slice A9 n9.length c9) w7 by rw [hw7, ← hz6]; exact heap_alloc_new w6 _)
  have IS8 := hide (show Sl RRdn 1 w7 (Nd d w7.heap.size) n8 [.slice A8 n8.length c8] from (Sl.ok RRdn.ok).mono hsl8 (fun j hj => (b57.block j (by have := hj.2; omega)).trans (hex5.at_ hj.2 (by have := hj.1; omega))) (fun j hj => ⟨Nat.lt_of_lt_of_le (Nat.lt_of_lt_of_le hj.2 hz5) b57.size, by have := hj.1; omega⟩))
  have IS9 := hide (show Sl RRdn 1 w7 (Nd d w7.heap.size) n9 [.slice A9 n9.length c9] from (Sl.ok RRdn.ok).mono hsl9 (fun j hj => b57.block j hj.2) (fun j hj => ⟨Nat.lt_of_lt_of_le hj.2 b57.size, by have := hj.1; omega⟩))
  have HG8 := hide hg8.okG
  have HG9 := hide hg9.okG
  have HWW := hide (show w7 = (w5.alloc (.cells #[.int .i64 k8, .string t8, .slice A8 n8.length c8] 26)).alloc (.cells #[.int .i64 k9, .string t9, .slice A9 n9.length c9] 26) by rw [hw7, hw6])
  obtain ⟨g8, hgg8⟩ : ∃ g, w5.heap.size = g := ⟨_, rfl⟩
  obtain ⟨g9, hgg9⟩ : ∃ g, g8 + 1 = g := ⟨_, rfl⟩
  have hd8 : g8 ≠ d := by omega
  have hd9 : g9 ≠ d := by omega
  rw [hgg8] at I8 I9
  rw [hgg9] at I9
  have HG89 := hide (And.intro hgg8 hgg9)
  clear hgg8 hgg9 hg8 hg9 hsl8 hsl9 hdk5 hex4 hex5 hw6 hw7 hz6 b56 b67 b57 hd3 hz4 hz5
  go_upto_region 3 with (fail)
  rw [← HWW.out]
  try rw [HG89.out.1]
  try rw [HG89.out.2]
  refine region_inv [29, 30, 31, 32, 6] (BJ w7 d (k8, t8.data.toList, n8) t8 A8 c8) (by kernel_rfl) (by kernel_rfl) (fun val => ⟨(Ex.refl d w7).drew, HDK7.out.drewN 1, nofun, nofun, nofun, nofun, nofun, nofun, nofun⟩) ⟨?_, ?_, ?_, ?_, ?_, trivial⟩ ?_
  · refine ⟨fun s hs => by cases hs <;> decide, ?_⟩
    rintro dd val W hJ hd hdep K hK
    rw [if_pos (by rfl)]
    dsimp only [putF, List.foldl, Act.put] at hK ⊢
    simp only [List.setIfInBounds_toArray, List.set_cons_zero, List.set_cons_succ] at hK ⊢
    obtain ⟨m0, m1, m2, -, -, -⟩ := (I8.out.ex hJ.base hd8).facts
    go_simp
    exact hK.out _ _ { base := hJ.base, dk := hJ.dk, l29 := fun _ => rfl, m30 := hJ.m30, s31 := hJ.s31, b32 := hJ.b32, a6 := hJ.a6, q3 := hJ.q3, q4 := hJ.q4 }
  · refine ⟨fun s hs => by cases hs <;> decide, ?_⟩
    rintro dd val W hJ hd hdep K hK
    rw [if_pos (by rfl)]
    dsimp only [putF, List.foldl, Act.put] at hK ⊢
    simp only [List.setIfInBounds_toArray, List.set_cons_zero, List.set_cons_succ] at hK ⊢
    go_simp
    exact hK.out _ _ { base := hJ.base, dk := hJ.dk, l29 := hJ.l29, m30 := fun _ => rfl, s31 := hJ.s31, b32 := hJ.b32, a6 := hJ.a6, q3 := hJ.q3, q4 := hJ.q4 }
  · refine ⟨fun s hs => by cases hs <;> decide, ?_⟩
    rintro dd val W hJ hd hdep K hK
    rw [if_pos (by rfl)]
    dsimp only [putF, List.foldl, Act.put] at hK ⊢
    simp only [List.setIfInBounds_toArray, List.set_cons_zero, List.set_cons_succ] at hK ⊢
    have e30 := hJ.m30 (hdep ⟨1, .data⟩ (by simp) rfl)
    have h24 : dd 3 = false := by
      cases h : dd 3
      · rfl
      · rw [hJ.q3 h] at hd; cases hd
    have h25 : dd 4 = false := by
      cases h : dd 4
      · rfl
      · rw [hJ.q4 h] at h24; cases h24
    simp only [e30] at hK ⊢
    go_simp
    refine (General_any d W hJ.dk).mono ?_
    rintro e w4 ⟨x, tx, Ax, cx, hgx, htx, rfl, hslx, hdkB, hexB⟩
    go_wp2_with fail
    exact hK.out _ _ { base := hJ.base.trans hexB, dk := hdkB, l29 := hJ.l29, m30 := hJ.m30, s31 := fun _ => ⟨x, tx, Ax, cx, hgx.okG, htx, rfl, (Sl.ok RRdn.ok).mono hslx (fun _ _ => rfl) (fun j hj => hj.2)⟩, b32 := fun h => (by rw [show dd 3 = true from h] at h24; cases h24), a6 := fun h => (by rw [show dd 4 = true from h] at h25; cases h25), q3 := fun _ => rfl, q4 := hJ.q4 }
  · refine ⟨fun s hs => by cases hs <;> decide, ?_⟩
    rintro dd val W hJ hd hdep K hK
    rw [if_pos (by rfl)]
    dsimp only [putF, List.foldl, Act.put] at hK ⊢
    simp only [List.setIfInBounds_toArray, List.set_cons_zero, List.set_cons_succ] at hK ⊢
    have e29 := hJ.l29 (hdep ⟨0, .data⟩ (by simp) rfl)
    have D2 := hdep ⟨2, .data⟩ (by simp) rfl
    obtain ⟨x, tx, Ax, cx, hgx, htx, e31, hslx⟩ := hJ.s31 D2
    have h25 : dd 4 = false := by
      cases h : dd 4
      · rfl
      · rw [hJ.q4 h] at hd; cases hd
    simp only [e29, e31] at hK ⊢
    have htwo := two_gen7 (w := W) (S := Lt W.heap.size) (g1 := (k8, t8.data.toList, n8)) (g2 := x) (T := 26) rfl htx ((Sl.ok RRdn.ok).lt ((Sl.ok RRdn.ok).ex IS8.out hJ.base)) hslx (fun _ h => h)
    have hb : Below W.heap.size W (W.alloc (.cells #[.int .i64 k8, .string t8, .slice A8 n8.length c8, .int .i64 x.1, .string tx, .slice Ax x.2.2.length cx] 26)) := (Below.refl _ _).alloc (Nat.le_refl _) _
    go_simp
    exact hK.out _ _ { base := hJ.base.trans (Ex.of_below hb), dk := hJ.dk.below hb, l29 := hJ.l29, m30 := hJ.m30, s31 := fun _ => ⟨x, tx, Ax, cx, hgx, htx, e31, (Sl.ok RRdn.ok).below hslx hb⟩, b32 := fun _ => ⟨W.heap.size, [(k8, t8.data.toList, n8), x], rfl, rfl, (fun g hg => by
      simp only [List.mem_cons, List.not_mem_nil, or_false] at hg
      rcases hg with rfl | rfl
      · exact HG8.out
      · exact hgx), htwo⟩, a6 := fun h => (by rw [show dd 4 = true from h] at h25; cases h25), q3 := fun _ => D2, q4 := fun _ => rfl }
  · refine ⟨fun s hs => by cases hs <;> decide, ?_⟩
    rintro dd val W hJ hd hdep K hK
    rw [if_pos (by rfl)]
    dsimp only [putF, List.foldl, Act.put] at hK ⊢
    simp only [List.setIfInBounds_toArray, List.set_cons_zero, List.set_cons_succ] at hK ⊢
    have D3 := hdep ⟨3, .data⟩ (by simp) rfl
    obtain ⟨g, L, e32, r1, r2, r3⟩ := hJ.b32 D3
    simp only [e32] at hK ⊢
    go_simp
    exact hK.out _ _ { base := hJ.base, dk := hJ.dk, l29 := hJ.l29, m30 := hJ.m30, s31 := hJ.s31, b32 := hJ.b32, a6 := fun _ => ⟨g, L, rfl, r1, r2, r3⟩, q3 := hJ.q3, q4 := fun _ => D3 }
  · rintro dd val W hall hJ
    obtain ⟨gL, L, e6, hL2, hLs, hslL⟩ := hJ.a6 (hall 4 (by decide))
    have HBW := hide (Ex.below HB7.out HB7.out.size hwd hJ.base)
    have J8 := hide (I8.out.ex hJ.base hd8)
    have J9 := hide (I9.out.ex hJ.base hd9)
    have JS8 := hide ((Sl.ok RRdn.ok).lt ((Sl.ok RRdn.ok).ex IS8.out hJ.base))
    have JS9 := hide ((Sl.ok RRdn.ok).lt ((Sl.ok RRdn.ok).ex IS9.out hJ.base))
    have KL := hide (show Sl RGen 3 W (Lt W.heap.size) L [.slice (some ⟨gL, 0, none⟩) L.length 2] by rw [hL2]; exact hslL)
    have HLS := hide hLs
    have HL2 := hide hL2
    dsimp only [putF, List.foldl, Act.put]
    simp only [List.setIfInBounds_toArray, List.set_cons_zero, List.set_cons_succ]
    simp only [e6]
    clear hJ hall e6 hslL hLs hL2
    obtain ⟨a0, a1, a2, -, -, -⟩ := J8.out.facts
    obtain ⟨b0, b1, b2, -, -, -⟩ := J9.out.facts
    obtain ⟨W0, hW0⟩ : ∃ W', W' = W.alloc (.cells #[.int .i64 k8, .string t8, .slice A8 n8.length c8, .int .i64 k9, .string t9, .slice A9 n9.length c9] 26) := ⟨_, rfl⟩
    have hbW : Below W.heap.size W W0 := by rw [hW0]; exact (Below.refl _ _).alloc (Nat.le_refl _) _
    have HC0 := hide (show W0.cell? ⟨W.heap.size, 0, none⟩ = some (.int .i64 k8) ∧ W0.cell? ⟨W.heap.size, 1, none⟩ = some (.string t8) ∧ W0.cell? ⟨W.heap.size, 2, none⟩ = some (.slice A8 n8.length c8) by
      rw [hW0, World.cell?_alloc_new, World.cell?_alloc_new, World.cell?_alloc_new]; exact ⟨rfl, rfl, rfl⟩)
    have HC1 := hide (show W0.cell? ⟨W.heap.size, 3, none⟩ = some (.int .i64 k9) ∧ W0.cell? ⟨W.heap.size, 4, none⟩ = some (.string t9) ∧ W0.cell? ⟨W.heap.size, 5, none⟩ = some (.slice A9 n9.length c9) by
      rw [hW0, World.cell?_alloc_new, World.cell?_alloc_new, World.cell?_alloc_new]; exact ⟨rfl, rfl, rfl⟩)
    have hgz : W.heap.size < W0.heap.size := by rw [hW0]; simp
    have HB0 := hide (HBW.out.trans (hbW.mono HBW.out.size))
    have KS8 := hide ((Sl.ok RRdn.ok).below JS8.out hbW)
    have KS9 := hide ((Sl.ok RRdn.ok).below JS9.out hbW)
    have KL0 := hide ((Sl.ok RGen.ok).below KL.out hbW)
    obtain ⟨gT, hgT⟩ : ∃ g, W.heap.size = g := ⟨_, rfl⟩
    rw [hgT] at HC0 HC1 hgz
    have HGT := hide hgT
    clear hbW hgT
    go_upto_region 5 with fail
    rw [← hW0]
    try rw [HGT.out]
    clear hW0 a0 a1 a2 b0 b1 b2
    go_loopw [37] (fun i wr => ∃ q : Nat, q ≤ 2 ∧ i = .int .i64 q ∧ Below W0.heap.size W0 wr) (fun i _ => 2 - (intOf i).toNat)
    case atStart => exact ⟨0, by omega, rfl, Below.refl _ _⟩
    case round =>
      obtain ⟨q, hq, rfl, hb⟩ := hrel
      obtain ⟨wi, rfl⟩ : ∃ wi : World, wi = wr := ⟨_, rfl⟩
      have HB := hide (HB0.out.trans (hb.mono HB0.out.size))
      have HBr := hide hb
      match q, hq with
      | 0, _ =>
        have f0 := (hb.cell (p := ⟨gT, 0, none⟩) hgz).trans HC0.out.1
        have f1 := (hb.cell (p := ⟨gT, 1, none⟩) hgz).trans HC0.out.2.1
        have f2 := (hb.cell (p := ⟨gT, 2, none⟩) hgz).trans HC0.out.2.2
        obtain ⟨wx, hwx⟩ : ∃ W, W = wi.alloc (.cells #[.int .i64 k8, .string t8, .slice A8 n8.length c8] 26) := ⟨_, rfl⟩
        have hbx : Below wi.heap.size wi wx := by rw [hwx]; exact (Below.refl _ _).alloc (Nat.le_refl _) _
        have hgx : GB wi.heap.size k8 t8 (.slice A8 n8.length c8) wx := by rw [hwx]; exact heap_alloc_new wi _
        obtain ⟨gx, hgx'⟩ : ∃ g, wi.heap.size = g := ⟨_, rfl⟩
        rw [hgx'] at hgx
        have HGX := hide hgx
        have HBX := hide (HB.out.trans (hbx.mono HB.out.size))
        have HBXr := hide (HBr.out.trans (hbx.mono HBr.out.size))
        have KN := hide ((Sl.ok RRdn.ok).below ((Sl.ok RRdn.ok).below KS8.out hb) hbx)
        clear hb hbx hgx
        go_upto_region 7 with fail
        rw [← hwx]
        try rw [hgx']
        clear hwx hgx' f0 f1 f2
        obtain ⟨x0, x1, x2, -, -, -⟩ := HGX.out.facts
        obtain ⟨te, ce, re, hone, hdec, hsame, hces⟩ : ∃ (te : Nat) (ce re : List UInt8), oneF (encGB (k8, t8.data.toList, n8)) = .ok (te, ce, re) ∧ decG (te : Int) ce false = .ok (sortG (k8, t8.data.toList, n8)) ∧ sameGsB [(k8, t8.data.toList, n8)] [sortG (k8, t8.data.toList, n8)] = true ∧ ce.length ≤ 131072 := by
          obtain ⟨e, o1, o2, o3, o4, o5, o6⟩ := decGE_enc HG8.out.chk (by have := HG8.out.len; omega)
          refine ⟨e.1, e.2.1, e.2.2, o1, o3, ?_, o6⟩
          rw [sameGsB, sameGB]
          simp only [sortG, beq_self_eq_true, Bool.true_and, sameGsB, Bool.and_true]
          exact o4
        obtain ⟨E, hE⟩ : ∃ E : ByteArray, E = ⟨(encGB (k8, t8.data.toList, n8)).toArray⟩ := ⟨_, rfl⟩
        have hEd : E.data.toList = encGB (k8, t8.data.toList, n8) := by rw [hE]
        have hEs : E.size ≤ 1000000 := by
          rw [hE, ba_mk]
          have := encGB_len HG8.out.chk HG8.out.small.1
          omega
        have HWE := hide (show wrapR (encG (k8, t8.data.toList, n8) false) = .tuple #[.string E, .int .i64 0] by rw [encG, if_pos HG8.out.chk, wrapR, hE])
        obtain ⟨xe, hxe⟩ : ∃ x : ByteArray, x = ⟨ce.toArray⟩ := ⟨_, rfl⟩
        obtain ⟨ye, hye⟩ : ∃ x : ByteArray, x = ⟨re.toArray⟩ := ⟨_, rfl⟩
        have hxs : xe.size ≤ 1000000 := by rw [hxe, ba_mk]; omega
        have HON := hide (show oneR (oneF E.data.toList) = .tuple #[.agg #[.int .i64 (te : Int), .string xe, .string ye], .int .i64 0] by rw [hEd, oneR_ok hone, hxe, hye])
        have HDE := hide (show toG (decG (te : Int) xe.data.toList false) = (0, sortG (k8, t8.data.toList, n8)) by rw [hxe]; show toG (decG (te : Int) ce false) = _; rw [hdec]; rfl)
        have HSA := hide hsame
        obtain ⟨F, hF⟩ : ∃ F : ByteArray, F = ⟨(fmtG (k8, t8.data.toList, n8)).1.toArray⟩ := ⟨_, rfl⟩
        have hbk := HG8.out.back
        unfold backG at hbk
        rw [Bool.and_eq_true, Bool.and_eq_true, beq_iff_eq, beq_iff_eq] at hbk
        have HWF := hide (show wrapR (fmtG (k8, t8.data.toList, n8)) = .tuple #[.string F, .int .i64 0] by rw [wrapR, hF, hbk.1])
        have hFs : F.size ≤ 100000 := by rw [hF, ba_mk]; exact HG8.out.fmt
        obtain ⟨z, hz⟩ : ∃ z : Gen, (parseG (fmtG (k8, t8.data.toList, n8)).1).2 = z := ⟨_, rfl⟩
        have HZL := hide (show z.2.1.length ≤ 100000 from hz ▸ Nat.le_trans (parseG_len _) HG8.out.fmt)
        have HPZ := hide (show parseG F.data.toList = (0, z) by rw [hF]; show parseG (fmtG (k8, t8.data.toList, n8)).1 = _; rw [← hz, ← hbk.2.1])
        have HSZ := hide (show sameG (k8, t8.data.toList, n8) z = true by rw [← hz]; exact hbk.2.2)
        have hts : t8.size ≤ 100 := by rw [← size_string]; exact HG8.out.len
        have HSN := hide HG8.out.small.2
        obtain ⟨sg, hsg⟩ : ∃ g, sortG (k8, t8.data.toList, n8) = g := ⟨_, rfl⟩
        rw [hsg] at HDE HSA
        clear hone hdec hsame hces hE hEd hxe hye hF hbk hz hsg
        go_wp2_with fail
        refine (gEncode_any k8 t8 n8 false A8 c8 (by omega) HSN.out _ (HMX.out.below HBX.out) KN.out).mono ?_
        rintro e w5 ⟨rfl, hb5⟩
        rw [HWE.out]
        have HB5r := hide (HBXr.out.trans (hb5.mono HBXr.out.size))
        have HB5 := hide (HBX.out.trans (hb5.mono HBX.out.size))
        have HG5 := hide (HGX.out.below hb5)
        have KN5 := hide ((Sl.ok RRdn.ok).below KN.out hb5)
        clear hb5 x0 x1 x2
        go_wp2_with fail
        refine (rOne_any E (by omega) _).mono ?_
        rintro e w6 ⟨rfl, hb6⟩
        rw [HON.out]
        have HB6r := hide (HB5r.out.trans (hb6.mono HB5r.out.size))
        have HB6 := hide (HB5.out.trans (hb6.mono HB5.out.size))
        have HG6 := hide (HG5.out.below hb6)
        have KN6 := hide ((Sl.ok RRdn.ok).below KN5.out hb6)
        clear hb6
        go_upto_region 9 with fail
        obtain ⟨w7, hw7⟩ : ∃ W, W = w6.alloc (.cells #[.int .i64 (te : Int), .string xe, .string ye] 45) := ⟨_, rfl⟩
        have hb7 : Below w6.heap.size w6 w7 := by rw [hw7]; exact (Below.refl _ _).alloc (Nat.le_refl _) _
        obtain ⟨e0, e1, e2⟩ : w7.cell? ⟨w6.heap.size, 0, none⟩ = some (.int .i64 (te : Int)) ∧ w7.cell? ⟨w6.heap.size, 1, none⟩ = some (.string xe) ∧ w7.cell? ⟨w6.heap.size, 2, none⟩ = some (.string ye) := by
          rw [hw7, World.cell?_alloc_new, World.cell?_alloc_new, World.cell?_alloc_new]; exact ⟨rfl, rfl, rfl⟩
        have HB7r := hide (HB6r.out.trans (hb7.mono HB6r.out.size))
        have HB7 := hide (HB6.out.trans (hb7.mono HB6.out.size))
        have HG7 := hide (HG6.out.below hb7)
        have KN7 := hide ((Sl.ok RRdn.ok).below KN6.out hb7)
        obtain ⟨gE, hgE⟩ : ∃ g, w6.heap.size = g := ⟨_, rfl⟩
        rw [hgE] at e0 e1 e2
        rw [← hw7]
        try rw [hgE]
        clear hb7 hw7 hgE
        go_wp2_with fail
        refine (gDecode_any (te : Int) xe ye false hxs _ (HMX.out.below HB7.out) (HTB.out.below HB7.out)).mono ?_
        rintro e w8 ⟨tD, AD, cD, he8, ht8, hsl8, hb8, -⟩
        rw [HDE.out] at he8 ht8 hsl8
        obtain ⟨ks, ts', ns⟩ := sg
        simp only at he8 ht8 hsl8
        subst he8
        have HB8r := hide (HB7r.out.trans (hb8.mono HB7r.out.size))
        have HB8 := hide (HB7.out.trans (hb8.mono HB7.out.size))
        have HG8 := hide (HG7.out.below hb8)
        have KN8 := hide ((Sl.ok RRdn.ok).below KN7.out hb8)
        have hsl8 := (Sl.ok RRdn.ok).mono hsl8 (fun _ _ => rfl) (S' := Lt w8.heap.size) (fun _ hj => hj.2)
        clear hb8 e0 e1 e2
        go_upto_region 10 with fail
        obtain ⟨w9, hw9⟩ : ∃ W, W = w8.alloc (.cells #[.int .i64 ks, .string tD, .slice AD ns.length cD] 26) := ⟨_, rfl⟩
        have hb9 : Below w8.heap.size w8 w9 := by rw [hw9]; exact (Below.refl _ _).alloc (Nat.le_refl _) _
        have hg9 : GB w8.heap.size ks tD (.slice AD ns.length cD) w9 := by rw [hw9]; exact heap_alloc_new w8 _
        have hsl9 := (Sl.ok RRdn.ok).below hsl8 hb9
        have HB9r := hide (HB8r.out.trans (hb9.mono HB8r.out.size))
        have HB9 := hide (HB8.out.trans (hb9.mono HB8.out.size))
        have HG9 := hide (HG8.out.below hb9)
        have KN9 := hide ((Sl.ok RRdn.ok).below KN8.out hb9)
        obtain ⟨gY, hgY⟩ : ∃ g, w8.heap.size = g := ⟨_, rfl⟩
        rw [hgY] at hg9
        rw [← hw9]
        try rw [hgY]
        have HY9 := hide hg9
        have KY9 := hide hsl9
        have HTY := hide ht8
        clear hb9 hw9 hgY hg9 hsl8 hsl9 ht8
        obtain ⟨x0, x1, x2, -, -, -⟩ := HG9.out.facts
        go_wp2_with fail
        refine (gFormat_any k8 t8 n8 A8 c8 (by omega) HSN.out _ (HMX.out.below HB9.out) KN9.out).mono ?_
        rintro e w10 ⟨rfl, hb10⟩
        rw [HWF.out]
        have HB10r := hide (HB9r.out.trans (hb10.mono HB9r.out.size))
        have HB10 := hide (HB9.out.trans (hb10.mono HB9.out.size))
        have HG10 := hide (HG9.out.below hb10)
        have HY10 := hide (HY9.out.below hb10)
        have KN10 := hide ((Sl.ok RRdn.ok).below KN9.out hb10)
        have KY10 := hide ((Sl.ok RRdn.ok).below KY9.out hb10)
        clear hb10 x0 x1 x2
        go_wp2_with fail
        refine (gParse_any F hFs _ (HMX.out.below HB10.out)).mono ?_
        rintro e w11 ⟨t11, A11, c11, he11, ht11, hsl11, hb11, hmed11⟩
        rw [HPZ.out] at he11 ht11 hsl11 hmed11
        obtain ⟨kz, tz, nz⟩ := z
        have HTL := hide (show t11.size ≤ 100000 by rw [← size_string, ht11]; exact HZL.out)
        simp only at he11 ht11 hsl11 hmed11
        subst he11
        have HB11r := hide (HB10r.out.trans (hb11.mono HB10r.out.size))
        have HB11 := hide (HB10.out.trans (hb11.mono HB10.out.size))
        have HG11 := hide (HG10.out.below hb11)
        have HY11 := hide (HY10.out.below hb11)
        have KN11 := hide ((Sl.ok RRdn.ok).below KN10.out hb11)
        have KY11 := hide ((Sl.ok RRdn.ok).below KY10.out hb11)
        have hsl11 := (Sl.ok RRdn.ok).mono hsl11 (fun _ _ => rfl) (S' := Lt w11.heap.size) (fun _ hj => hj.2)
        clear hb11
        go_upto_region 12 with fail
        obtain ⟨w12, hw12⟩ : ∃ W, W = w11.alloc (.cells #[.int .i64 kz, .string t11, .slice A11 nz.length c11] 26) := ⟨_, rfl⟩
        have hb12 : Below w11.heap.size w11 w12 := by rw [hw12]; exact (Below.refl _ _).alloc (Nat.le_refl _) _
        have hg12 : GB w11.heap.size kz t11 (.slice A11 nz.length c11) w12 := by rw [hw12]; exact heap_alloc_new w11 _
        have KZ12 := hide ((Sl.ok RRdn.ok).below hsl11 hb12)
        have HB12r := hide (HB11r.out.trans (hb12.mono HB11r.out.size))
        have HB12 := hide (HB11.out.trans (hb12.mono HB11.out.size))
        have HG12 := hide (HG11.out.below hb12)
        have HY12 := hide (HY11.out.below hb12)
        have KN12 := (Sl.ok RRdn.ok).below KN11.out hb12
        have KY12 := (Sl.ok RRdn.ok).below KY11.out hb12
        obtain ⟨gZ, hgZ⟩ : ∃ g, w11.heap.size = g := ⟨_, rfl⟩
        rw [hgZ] at hg12
        rw [← hw12]
        try rw [hgZ]
        have HZ12 := hide hg12
        have HTZ := hide ht11
        have HMZ := hide hmed11
        clear hb12 hw12 hgZ hg12 hsl11 ht11 hmed11
        obtain ⟨x0, x1, x2, -, -, -⟩ := HG12.out.facts
        obtain ⟨y0, y1, y2, -, -, -⟩ := HY12.out.facts
        obtain ⟨w13, hw13⟩ : ∃ W, W = w12.alloc (.cells #[.int .i64 k8, .string t8, .slice A8 n8.length c8] 26) := ⟨_, rfl⟩
        have hb13 : Below w12.heap.size w12 w13 := by rw [hw13]; exact (Below.refl _ _).alloc (Nat.le_refl _) _
        have hq1 := one_gen9 (g := ((k8, t8.data.toList, n8) : Gen)) (T := 26) rfl KN12 (fun _ h => h)
        rw [← hw13] at hq1
        have hz13 : w13.heap.size = w12.heap.size + 1 := by rw [hw13]; simp
        obtain ⟨w14, hw14⟩ : ∃ W, W = w13.alloc (.cells #[.int .i64 ks, .string tD, .slice AD ns.length cD] 26) := ⟨_, rfl⟩
        have hb14 : Below w13.heap.size w13 w14 := by rw [hw14]; exact (Below.refl _ _).alloc (Nat.le_refl _) _
        have hq2 := one_gen9 (g := ((ks, ts', ns) : Gen)) (T := 26) HTY.out ((Sl.ok RRdn.ok).below KY12 hb13) (fun _ h => h)
        rw [← hw14, hz13] at hq2
        have y0' := cell_grows hb13 _ _ y0
        have y1' := cell_grows hb13 _ _ y1
        have y2' := cell_grows hb13 _ _ y2
        rw [hw13] at y0' y1' y2'
        have EX := hide (show Calls Tryz.prog 19 #[.slice (some ⟨w12.heap.size, 0, none⟩) 1 1, .slice (some ⟨w12.heap.size + 1, 0, none⟩) 1 1] w14 (fun e w' => e = .returned (.bool true) ∧ Below w14.heap.size w14 w') from SameGs_any [((k8, t8.data.toList, n8) : Gen)] [((ks, ts', ns) : Gen)] HSA.out (some ⟨w12.heap.size, 0, none⟩) (some ⟨w12.heap.size + 1, 0, none⟩) 1 1 w14 ((Sl.ok RGen.ok).below hq1 hb14) hq2)
        have hb1214 := hb13.trans (hb14.mono hb13.size)
        have HB14 := hide (HB12.out.trans (hb1214.mono HB12.out.size))
        have HB14r := hide (HB12r.out.trans (hb1214.mono HB12r.out.size))
        have HG14 := hide (HG12.out.below hb1214)
        have HZ14 := hide (HZ12.out.below hb1214)
        have KN14 := hide ((Sl.ok RRdn.ok).below KN12 hb1214)
        have KZ14 := hide ((Sl.ok RRdn.ok).below KZ12.out hb1214)
        have HW13 := hide hw13
        have HW14 := hide hw14
        clear hq1 hq2 KN12 KY12 hb13 hb14 hz13 hw13 hw14 hb1214
        rw [HW14.out, HW13.out] at EX
        go_wp2_with fail
        refine EX.out.mono ?_
        rintro e wn ⟨rfl, hbn⟩
        rw [← HW13.out, ← HW14.out] at hbn
        have HBN := hide (HB14.out.trans (hbn.mono HB14.out.size))
        have HBNr := hide (HB14r.out.trans (hbn.mono HB14r.out.size))
        have KNN := hide ((Sl.ok RRdn.ok).below KN14.out hbn)
        have KZN := hide ((Sl.ok RRdn.ok).below KZ14.out hbn)
        have hGN := HG14.out.below hbn
        have hZN := HZ14.out.below hbn
        clear hbn x0 x1 x2 y0 y1 y2 y0' y1' y2'
        obtain ⟨x0, x1, x2, -, -, -⟩ := hGN.facts
        obtain ⟨z0, z1, z2, -, -, -⟩ := hZN.facts
        clear hGN hZN
        have htz : t11.size ≤ 100000 := HTL.out
        have RS := hide (rgSame_any k8 kz t8 t11 n8 nz A8 A11 c8 c11 (by omega) htz HSN.out HMZ.out.2 true (by rw [HTZ.out]; exact HSZ.out) wn KNN.out KZN.out)
        go_wp2_with fail
        refine RS.out.mono ?_
        rintro e wm ⟨rfl, hbm⟩
        have HBM := hide (HBNr.out.trans (hbm.mono HBNr.out.size))
        clear hbm x0 x1 x2 z0 z1 z2
        go_wp2_with fail
        go_roundw
        case rel => exact ⟨0 + 1, by omega, by go_num, HBM.out⟩
        case measure => simp [intOf]
      | 1, _ =>
        have f0 := (hb.cell (p := ⟨gT, 3, none⟩) hgz).trans HC1.out.1
        have f1 := (hb.cell (p := ⟨gT, 4, none⟩) hgz).trans HC1.out.2.1
        have f2 := (hb.cell (p := ⟨gT, 5, none⟩) hgz).trans HC1.out.2.2
        obtain ⟨wx, hwx⟩ : ∃ W, W = wi.alloc (.cells #[.int .i64 k9, .string t9, .slice A9 n9.length c9] 26) := ⟨_, rfl⟩
        have hbx : Below wi.heap.size wi wx := by rw [hwx]; exact (Below.refl _ _).alloc (Nat.le_refl _) _
        have hgx : GB wi.heap.size k9 t9 (.slice A9 n9.length c9) wx := by rw [hwx]; exact heap_alloc_new wi _
        obtain ⟨gx, hgx'⟩ : ∃ g, wi.heap.size = g := ⟨_, rfl⟩
        rw [hgx'] at hgx
        have HGX := hide hgx
        have HBX := hide (HB.out.trans (hbx.mono HB.out.size))
        have HBXr := hide (HBr.out.trans (hbx.mono HBr.out.size))
        have KN := hide ((Sl.ok RRdn.ok).below ((Sl.ok RRdn.ok).below KS9.out hb) hbx)
        clear hb hbx hgx
        go_upto_region 7 with fail
        rw [← hwx]
        try rw [hgx']
        clear hwx hgx' f0 f1 f2
        obtain ⟨x0, x1, x2, -, -, -⟩ := HGX.out.facts
        obtain ⟨te, ce, re, hone, hdec, hsame, hces⟩ : ∃ (te : Nat) (ce re : List UInt8), oneF (encGB (k9, t9.data.toList, n9)) = .ok (te, ce, re) ∧ decG (te : Int) ce true = .ok (sortG (k9, t9.data.toList, n9)) ∧ sameGsB [(k9, t9.data.toList, n9)] [sortG (k9, t9.data.toList, n9)] = true ∧ ce.length ≤ 131072 := by
          obtain ⟨e, o1, o2, o3, o4, o5, o6⟩ := decGE_enc HG9.out.chk (by have := HG9.out.len; omega)
          refine ⟨e.1, e.2.1, e.2.2, o1, o3, ?_, o6⟩
          rw [sameGsB, sameGB]
          simp only [sortG, beq_self_eq_true, Bool.true_and, sameGsB, Bool.and_true]
          exact o4
        obtain ⟨E, hE⟩ : ∃ E : ByteArray, E = ⟨(encGB (k9, t9.data.toList, n9)).toArray⟩ := ⟨_, rfl⟩
        have hEd : E.data.toList = encGB (k9, t9.data.toList, n9) := by rw [hE]
        have hEs : E.size ≤ 1000000 := by
          rw [hE, ba_mk]
          have := encGB_len HG9.out.chk HG9.out.small.1
          omega
        have HWE := hide (show wrapR (encG (k9, t9.data.toList, n9) true) = .tuple #[.string E, .int .i64 0] by rw [encG, if_pos HG9.out.chk, wrapR, hE])
        obtain ⟨xe, hxe⟩ : ∃ x : ByteArray, x = ⟨ce.toArray⟩ := ⟨_, rfl⟩
        obtain ⟨ye, hye⟩ : ∃ x : ByteArray, x = ⟨re.toArray⟩ := ⟨_, rfl⟩
        have hxs : xe.size ≤ 1000000 := by rw [hxe, ba_mk]; omega
        have HON := hide (show oneR (oneF E.data.toList) = .tuple #[.agg #[.int .i64 (te : Int), .string xe, .string ye], .int .i64 0] by rw [hEd, oneR_ok hone, hxe, hye])
        have HDE := hide (show toG (decG (te : Int) xe.data.toList true) = (0, sortG (k9, t9.data.toList, n9)) by rw [hxe]; show toG (decG (te : Int) ce true) = _; rw [hdec]; rfl)
        have HSA := hide hsame
        obtain ⟨F, hF⟩ : ∃ F : ByteArray, F = ⟨(fmtG (k9, t9.data.toList, n9)).1.toArray⟩ := ⟨_, rfl⟩
        have hbk := HG9.out.back
        unfold backG at hbk
        rw [Bool.and_eq_true, Bool.and_eq_true, beq_iff_eq, beq_iff_eq] at hbk
        have HWF := hide (show wrapR (fmtG (k9, t9.data.toList, n9)) = .tuple #[.string F, .int .i64 0] by rw [wrapR, hF, hbk.1])
        have hFs : F.size ≤ 100000 := by rw [hF, ba_mk]; exact HG9.out.fmt
        obtain ⟨z, hz⟩ : ∃ z : Gen, (parseG (fmtG (k9, t9.data.toList, n9)).1).2 = z := ⟨_, rfl⟩
        have HZL := hide (show z.2.1.length ≤ 100000 from hz ▸ Nat.le_trans (parseG_len _) HG9.out.fmt)
        have HPZ := hide (show parseG F.data.toList = (0, z) by rw [hF]; show parseG (fmtG (k9, t9.data.toList, n9)).1 = _; rw [← hz, ← hbk.2.1])
        have HSZ := hide (show sameG (k9, t9.data.toList, n9) z = true by rw [← hz]; exact hbk.2.2)
        have hts : t9.size ≤ 100 := by rw [← size_string]; exact HG9.out.len
        have HSN := hide HG9.out.small.2
        obtain ⟨sg, hsg⟩ : ∃ g, sortG (k9, t9.data.toList, n9) = g := ⟨_, rfl⟩
        rw [hsg] at HDE HSA
        clear hone hdec hsame hces hE hEd hxe hye hF hbk hz hsg
        go_wp2_with fail
        refine (gEncode_any k9 t9 n9 true A9 c9 (by omega) HSN.out _ (HMX.out.below HBX.out) KN.out).mono ?_
        rintro e w5 ⟨rfl, hb5⟩
        rw [HWE.out]
        have HB5r := hide (HBXr.out.trans (hb5.mono HBXr.out.size))
        have HB5 := hide (HBX.out.trans (hb5.mono HBX.out.size))
        have HG5 := hide (HGX.out.below hb5)
        have KN5 := hide ((Sl.ok RRdn.ok).below KN.out hb5)
        clear hb5 x0 x1 x2
        go_wp2_with fail
        refine (rOne_any E (by omega) _).mono ?_
        rintro e w6 ⟨rfl, hb6⟩
        rw [HON.out]
        have HB6r := hide (HB5r.out.trans (hb6.mono HB5r.out.size))
        have HB6 := hide (HB5.out.trans (hb6.mono HB5.out.size))
        have HG6 := hide (HG5.out.below hb6)
        have KN6 := hide ((Sl.ok RRdn.ok).below KN5.out hb6)
        clear hb6
        go_upto_region 9 with fail
        obtain ⟨w7, hw7⟩ : ∃ W, W = w6.alloc (.cells #[.int .i64 (te : Int), .string xe, .string ye] 45) := ⟨_, rfl⟩
        have hb7 : Below w6.heap.size w6 w7 := by rw [hw7]; exact (Below.refl _ _).alloc (Nat.le_refl _) _
        obtain ⟨e0, e1, e2⟩ : w7.cell? ⟨w6.heap.size, 0, none⟩ = some (.int .i64 (te : Int)) ∧ w7.cell? ⟨w6.heap.size, 1, none⟩ = some (.string xe) ∧ w7.cell? ⟨w6.heap.size, 2, none⟩ = some (.string ye) := by
          rw [hw7, World.cell?_alloc_new, World.cell?_alloc_new, World.cell?_alloc_new]; exact ⟨rfl, rfl, rfl⟩
        have HB7r := hide (HB6r.out.trans (hb7.mono HB6r.out.size))
        have HB7 := hide (HB6.out.trans (hb7.mono HB6.out.size))
        have HG7 := hide (HG6.out.below hb7)
        have KN7 := hide ((Sl.ok RRdn.ok).below KN6.out hb7)
        obtain ⟨gE, hgE⟩ : ∃ g, w6.heap.size = g := ⟨_, rfl⟩
        rw [hgE] at e0 e1 e2
        rw [← hw7]
        try rw [hgE]
        clear hb7 hw7 hgE
        go_wp2_with fail
        refine (gDecode_any (te : Int) xe ye true hxs _ (HMX.out.below HB7.out) (HTB.out.below HB7.out)).mono ?_
        rintro e w8 ⟨tD, AD, cD, he8, ht8, hsl8, hb8, -⟩
        rw [HDE.out] at he8 ht8 hsl8
        obtain ⟨ks, ts', ns⟩ := sg
        simp only at he8 ht8 hsl8
        subst he8
        have HB8r := hide (HB7r.out.trans (hb8.mono HB7r.out.size))
        have HB8 := hide (HB7.out.trans (hb8.mono HB7.out.size))
        have HG8 := hide (HG7.out.below hb8)
        have KN8 := hide ((Sl.ok RRdn.ok).below KN7.out hb8)
        have hsl8 := (Sl.ok RRdn.ok).mono hsl8 (fun _ _ => rfl) (S' := Lt w8.heap.size) (fun _ hj => hj.2)
        clear hb8 e0 e1 e2
        go_upto_region 10 with fail
        obtain ⟨w9, hw9⟩ : ∃ W, W = w8.alloc (.cells #[.int .i64 ks, .string tD, .slice AD ns.length cD] 26) := ⟨_, rfl⟩
        have hb9 : Below w8.heap.size w8 w9 := by rw [hw9]; exact (Below.refl _ _).alloc (Nat.le_refl _) _
        have hg9 : GB w8.heap.size ks tD (.slice AD ns.length cD) w9 := by rw [hw9]; exact heap_alloc_new w8 _
        have hsl9 := (Sl.ok RRdn.ok).below hsl8 hb9
        have HB9r := hide (HB8r.out.trans (hb9.mono HB8r.out.size))
        have HB9 := hide (HB8.out.trans (hb9.mono HB8.out.size))
        have HG9 := hide (HG8.out.below hb9)
        have KN9 := hide ((Sl.ok RRdn.ok).below KN8.out hb9)
        obtain ⟨gY, hgY⟩ : ∃ g, w8.heap.size = g := ⟨_, rfl⟩
        rw [hgY] at hg9
        rw [← hw9]
        try rw [hgY]
        have HY9 := hide hg9
        have KY9 := hide hsl9
        have HTY := hide ht8
        clear hb9 hw9 hgY hg9 hsl8 hsl9 ht8
        obtain ⟨x0, x1, x2, -, -, -⟩ := HG9.out.facts
        go_wp2_with fail
        refine (gFormat_any k9 t9 n9 A9 c9 (by omega) HSN.out _ (HMX.out.below HB9.out) KN9.out).mono ?_
        rintro e w10 ⟨rfl, hb10⟩
        rw [HWF.out]
        have HB10r := hide (HB9r.out.trans (hb10.mono HB9r.out.size))
        have HB10 := hide (HB9.out.trans (hb10.mono HB9.out.size))
        have HG10 := hide (HG9.out.below hb10)
        have HY10 := hide (HY9.out.below hb10)
        have KN10 := hide ((Sl.ok RRdn.ok).below KN9.out hb10)
        have KY10 := hide ((Sl.ok RRdn.ok).below KY9.out hb10)
        clear hb10 x0 x1 x2
        go_wp2_with fail
        refine (gParse_any F hFs _ (HMX.out.below HB10.out)).mono ?_
        rintro e w11 ⟨t11, A11, c11, he11, ht11, hsl11, hb11, hmed11⟩
        rw [HPZ.out] at he11 ht11 hsl11 hmed11
        obtain ⟨kz, tz, nz⟩ := z
        have HTL := hide (show t11.size ≤ 100000 by rw [← size_string, ht11]; exact HZL.out)
        simp only at he11 ht11 hsl11 hmed11
        subst he11
        have HB11r := hide (HB10r.out.trans (hb11.mono HB10r.out.size))
        have HB11 := hide (HB10.out.trans (hb11.mono HB10.out.size))
        have HG11 := hide (HG10.out.below hb11)
        have HY11 := hide (HY10.out.below hb11)
        have KN11 := hide ((Sl.ok RRdn.ok).below KN10.out hb11)
        have KY11 := hide ((Sl.ok RRdn.ok).below KY10.out hb11)
        have hsl11 := (Sl.ok RRdn.ok).mono hsl11 (fun _ _ => rfl) (S' := Lt w11.heap.size) (fun _ hj => hj.2)
        clear hb11
        go_upto_region 12 with fail
        obtain ⟨w12, hw12⟩ : ∃ W, W = w11.alloc (.cells #[.int .i64 kz, .string t11, .slice A11 nz.length c11] 26) := ⟨_, rfl⟩
        have hb12 : Below w11.heap.size w11 w12 := by rw [hw12]; exact (Below.refl _ _).alloc (Nat.le_refl _) _
        have hg12 : GB w11.heap.size kz t11 (.slice A11 nz.length c11) w12 := by rw [hw12]; exact heap_alloc_new w11 _
        have KZ12 := hide ((Sl.ok RRdn.ok).below hsl11 hb12)
        have HB12r := hide (HB11r.out.trans (hb12.mono HB11r.out.size))
        have HB12 := hide (HB11.out.trans (hb12.mono HB11.out.size))
        have HG12 := hide (HG11.out.below hb12)
        have HY12 := hide (HY11.out.below hb12)
        have KN12 := (Sl.ok RRdn.ok).below KN11.out hb12
        have KY12 := (Sl.ok RRdn.ok).below KY11.out hb12
        obtain ⟨gZ, hgZ⟩ : ∃ g, w11.heap.size = g := ⟨_, rfl⟩
        rw [hgZ] at hg12
        rw [← hw12]
        try rw [hgZ]
        have HZ12 := hide hg12
        have HTZ := hide ht11
        have HMZ := hide hmed11
        clear hb12 hw12 hgZ hg12 hsl11 ht11 hmed11
        obtain ⟨x0, x1, x2, -, -, -⟩ := HG12.out.facts
        obtain ⟨y0, y1, y2, -, -, -⟩ := HY12.out.facts
        obtain ⟨w13, hw13⟩ : ∃ W, W = w12.alloc (.cells #[.int .i64 k9, .string t9, .slice A9 n9.length c9] 26) := ⟨_, rfl⟩
        have hb13 : Below w12.heap.size w12 w13 := by rw [hw13]; exact (Below.refl _ _).alloc (Nat.le_refl _) _
        have hq1 := one_gen9 (g := ((k9, t9.data.toList, n9) : Gen)) (T := 26) rfl KN12 (fun _ h => h)
        rw [← hw13] at hq1
        have hz13 : w13.heap.size = w12.heap.size + 1 := by rw [hw13]; simp
        obtain ⟨w14, hw14⟩ : ∃ W, W = w13.alloc (.cells #[.int .i64 ks, .string tD, .slice AD ns.length cD] 26) := ⟨_, rfl⟩
        have hb14 : Below w13.heap.size w13 w14 := by rw [hw14]; exact (Below.refl _ _).alloc (Nat.le_refl _) _
        have hq2 := one_gen9 (g := ((ks, ts', ns) : Gen)) (T := 26) HTY.out ((Sl.ok RRdn.ok).below KY12 hb13) (fun _ h => h)
        rw [← hw14, hz13] at hq2
        have y0' := cell_grows hb13 _ _ y0
        have y1' := cell_grows hb13 _ _ y1
        have y2' := cell_grows hb13 _ _ y2
        rw [hw13] at y0' y1' y2'
        have EX := hide (show Calls Tryz.prog 19 #[.slice (some ⟨w12.heap.size, 0, none⟩) 1 1, .slice (some ⟨w12.heap.size + 1, 0, none⟩) 1 1] w14 (fun e w' => e = .returned (.bool true) ∧ Below w14.heap.size w14 w') from SameGs_any [((k9, t9.data.toList, n9) : Gen)] [((ks, ts', ns) : Gen)] HSA.out (some ⟨w12.heap.size, 0, none⟩) (some ⟨w12.heap.size + 1, 0, none⟩) 1 1 w14 ((Sl.ok RGen.ok).below hq1 hb14) hq2)
        have hb1214 := hb13.trans (hb14.mono hb13.size)
        have HB14 := hide (HB12.out.trans (hb1214.mono HB12.out.size))
        have HB14r := hide (HB12r.out.trans (hb1214.mono HB12r.out.size))
        have HG14 := hide (HG12.out.below hb1214)
        have HZ14 := hide (HZ12.out.below hb1214)
        have KN14 := hide ((Sl.ok RRdn.ok).below KN12 hb1214)
        have KZ14 := hide ((Sl.ok RRdn.ok).below KZ12.out hb1214)
        have HW13 := hide hw13
        have HW14 := hide hw14
        clear hq1 hq2 KN12 KY12 hb13 hb14 hz13 hw13 hw14 hb1214
        rw [HW14.out, HW13.out] at EX
        go_wp2_with fail
        refine EX.out.mono ?_
        rintro e wn ⟨rfl, hbn⟩
        rw [← HW13.out, ← HW14.out] at hbn
        have HBN := hide (HB14.out.trans (hbn.mono HB14.out.size))
        have HBNr := hide (HB14r.out.trans (hbn.mono HB14r.out.size))
        have KNN := hide ((Sl.ok RRdn.ok).below KN14.out hbn)
        have KZN := hide ((Sl.ok RRdn.ok).below KZ14.out hbn)
        have hGN := HG14.out.below hbn
        have hZN := HZ14.out.below hbn
        clear hbn x0 x1 x2 y0 y1 y2 y0' y1' y2'
        obtain ⟨x0, x1, x2, -, -, -⟩ := hGN.facts
        obtain ⟨z0, z1, z2, -, -, -⟩ := hZN.facts
        clear hGN hZN
        have htz : t11.size ≤ 100000 := HTL.out
        have RS := hide (rgSame_any k9 kz t9 t11 n9 nz A9 A11 c9 c11 (by omega) htz HSN.out HMZ.out.2 true (by rw [HTZ.out]; exact HSZ.out) wn KNN.out KZN.out)
        go_wp2_with fail
        refine RS.out.mono ?_
        rintro e wm ⟨rfl, hbm⟩
        have HBM := hide (HBNr.out.trans (hbm.mono HBNr.out.size))
        clear hbm x0 x1 x2 z0 z1 z2
        go_wp2_with fail
        go_roundw
        case rel => exact ⟨1 + 1, by omega, by go_num, HBM.out⟩
        case measure => simp [intOf]
      | 2, _ =>
        rw [show ((2 : Nat) : Int) = 2 from rfl]
        have KLi := hide ((Sl.ok RGen.ok).below KL0.out hb)
        obtain ⟨hl1, hl2, hl3, hl4⟩ := list_back HLS.out HL2.out
        obtain ⟨E, hE⟩ : ∃ E : ByteArray, E = ⟨(L.flatMap encGB).toArray⟩ := ⟨_, rfl⟩
        have hEs : E.size ≤ 300000 := by rw [hE, ba_mk]; exact hl4
        have HWE := hide (show wrapR (encGL L) = .tuple #[.string E, .int .i64 0] by rw [hl1, wrapR, hE])
        obtain ⟨M, hM⟩ : ∃ M, L.map sortG = M := ⟨_, rfl⟩
        have HDE := hide (show toGs (decGLs E.data.toList) = (0, M) by rw [hE]; show toGs (decGLs (L.flatMap encGB)) = _; rw [hl2, hM]; rfl)
        have HSA := hide (show sameGsB L M = true by rw [← hM]; exact hl3)
        have HSL := hide (show SmallGs L from fun g hg => (HLS.out g hg).small)
        have ENL := hide (show ∀ W, Mx W → Sl RGen 3 W (Lt W.heap.size) L [.slice (some ⟨gL, 0, none⟩) L.length 2] → Calls Tryz.prog 21 #[.slice (some ⟨gL, 0, none⟩) 2 2] W fun e w' => e = .returned (wrapR (encGL L)) ∧ Below W.heap.size W w' from fun W hm hs => by
          have := gEncodeL_any L (some ⟨gL, 0, none⟩) 2 HSL.out W hm hs
          rw [HL2.out] at this
          exact this)
        clear hb hl1 hl2 hl3 hl4 hE hM
        go_wp2_with fail
        refine (ENL.out _ (HMX.out.below HB.out) KLi.out).mono ?_
        rintro e w5 ⟨rfl, hb5⟩
        rw [HWE.out]
        have HB5 := hide (HB.out.trans (hb5.mono HB.out.size))
        have KL5 := hide ((Sl.ok RGen.ok).below KLi.out hb5)
        clear hb5
        go_wp2_with fail
        refine (gDecodeL_any E (by omega) _ (HMX.out.below HB5.out) (HTB.out.below HB5.out)).mono ?_
        rintro e w6 ⟨A6, c6, he6, hsl6, hb6, -⟩
        rw [HDE.out] at he6 hsl6
        simp only at he6 hsl6
        subst he6
        have HB6 := hide (HB5.out.trans (hb6.mono HB5.out.size))
        have KL6 := hide ((Sl.ok RGen.ok).below KL5.out hb6)
        have KM6 := hide hsl6
        clear hb6 hsl6
        go_wp2_with fail
        refine (awake9_any _ (HMX.out.below HB6.out)).mono ?_
        rintro e w7 ⟨rfl, hb7⟩
        have HB7 := hide (HB6.out.trans (hb7.mono HB6.out.size))
        have SG := hide (SameGs_any L M HSA.out (some ⟨gL, 0, none⟩) A6 2 c6 w7 ((Sl.ok RGen.ok).below KL6.out hb7) ((Sl.ok RGen.ok).below KM6.out hb7))
        rw [HL2.out] at SG
        clear hb7
        go_wp2_with fail
        refine SG.out.mono ?_
        rintro e w8 ⟨rfl, hb8⟩
        go_wp2_with fail
        go_ret
        exact ⟨rfl, HB7.out.trans (hb8.mono HB7.out.size)⟩
end Go.Proofs.YtmgnihmjjijdoaaGreatDoor
