/- The law SubtreeCheck, its walk. -/
import Derived.Test.YtinmfgbdadchjaaGreatDoorQSbF
import Derived.Test.YtinmfgbdadchjaaGreatDoorQSbD
import Derived.Test.YtinmfgbdadchjaaGreatDoorQPerA
namespace Go.Proofs.YtinmfgbdadchjaaGreatDoor
open Go.RowKit
theorem one_genS {w : World} {S : Nat → Prop} {g : Gen} {t : ByteArray} {A : Option Addr} {c : Nat} {T : TypeId} (ht : t.data.toList = g.2.1) (h1 : Sl RRdn 1 w S g.2.2 [.slice A g.2.2.length c]) (hS : ∀ k, S k → k < w.heap.size) :
    Sl RGen 3 (w.alloc (.cells #[.int .i64 g.1, .string t, .slice A g.2.2.length c] T)) (Lt (w.alloc (.cells #[.int .i64 g.1, .string t, .slice A g.2.2.length c] T)).heap.size) [g] [.slice (some ⟨w.heap.size, 0, none⟩) [g].length 1] := by
  refine ⟨_, _, rfl, Nat.le_refl _, by simp [maxLen], fun _ => ⟨w.heap.size, 0, rfl, by show w.heap.size < _; simp, fun i x hx => ?_⟩⟩
  match i, hx with
  | 0, hx =>
    simp at hx; subst hx
    refine ⟨[.int .i64 g.1, .string t, .slice A g.2.2.length c], ⟨_, by rw [← ht], (Sl.ok RRdn.ok).mono h1 (fun k hk => Below.heap_alloc _ _ k (hS k hk)) (fun k hk => by show k < _; have := hS k hk; simp; omega)⟩, fun j u hu => ?_⟩
    rw [World.cell?_alloc_new]
    match j, hu with
    | 0, hu => simpa using hu
    | 1, hu => simpa using hu
    | 2, hu => simpa using hu
theorem gen_step_arg {wr : World} {base B : Nat} {S : Nat → Prop} {v : Value} {l : List Gen} {g : Gen} {t : ByteArray} {A1 : Option Addr} {c1 : Nat} (hown : Own RGen 3 50 wr base S v l) (hS : ∀ j, S j → base ≤ j ∧ j < wr.heap.size) (hB : B ≤ base) (hbase : base ≤ wr.heap.size)
    (ht : t.data.toList = g.2.1) (h1 : Sl RRdn 1 wr (Lt B) g.2.2 [.slice A1 g.2.2.length c1]) :
    ∃ S' : Nat → Prop, (∀ j, S' j → S j ∨ j < B) ∧ Own RGen 3 50 (wr.alloc (.cells #[.int .i64 g.1, .string t, .slice A1 g.2.2.length c1] 50)) base S' v l ∧
      (∀ i z, [g][i]? = some z → ∃ cs, RGen (wr.alloc (.cells #[.int .i64 g.1, .string t, .slice A1 g.2.2.length c1] 50)) S' z cs ∧ ∀ j u, cs[j]? = some u → (wr.alloc (.cells #[.int .i64 g.1, .string t, .slice A1 g.2.2.length c1] 50)).cell? ((⟨wr.heap.size, 0, none⟩ : Addr).add (i * 3 + j)) = some u) ∧
      ∀ j, S' j → j < (wr.alloc (.cells #[.int .i64 g.1, .string t, .slice A1 g.2.2.length c1] 50)).heap.size := by
  have hnoS : ∀ b, v.ownBlock = some b → ¬ (S b ∨ b < B) := fun b hb hh => by
    have hlt := (hown.lt b hb).1
    rcases hh with hh | hh
    · obtain ⟨_, _, h2, _⟩ := hown
      exact h2 b hb hh
    · omega
  have hlt : ∀ j, (S j ∨ j < B) → j < wr.heap.size := fun j hj => by
    rcases hj with hj | hj
    · exact (hS j hj).2
    · omega
  have hownA := (hown.more RGen.ok (S' := fun j => S j ∨ j < B) (fun j hj => .inl hj) hnoS).alloc RGen.ok hlt (.cells #[.int .i64 g.1, .string t, .slice A1 g.2.2.length c1] 50)
  refine ⟨fun j => S j ∨ j < B, fun _ h => h, hownA, fun i z hz => ?_, fun j hj => by have := hlt j hj; simp; omega⟩
  match i, hz with
  | 0, hz =>
    simp at hz; subst hz
    refine ⟨[.int .i64 g.1, .string t, .slice A1 g.2.2.length c1], ⟨_, by rw [← ht], (Sl.ok RRdn.ok).mono h1 (fun j hj => Below.heap_alloc _ _ j (by have h : j < B := hj; omega)) (fun j hj => .inr hj)⟩, fun j u hu => ?_⟩
    rw [Addr.add_lit, Nat.zero_mul, Nat.zero_add, Nat.zero_add, World.cell?_alloc_new]
    match j, hu with
    | 0, hu => simpa using hu
    | 1, hu => simpa using hu
    | 2, hu => simpa using hu
theorem gen_step_ex2 {wr w1 : World} {base d : Nat} {S : Nat → Prop} {v : Value} {l : List Gen} {k : Int} {t : ByteArray} {n : Name} {A1 : Option Addr} {c1 : Nat} (hown : Own RGen 3 50 wr base S v l) (hS : ∀ j, S j → base ≤ j ∧ j < wr.heap.size)
    (hex : Ex d wr w1) (hd : d < base) (hz : wr.heap.size ≤ w1.heap.size) (h1 : Sl RRdn 1 w1 (Btw wr.heap.size w1.heap.size) n [.slice A1 n.length c1]) :
    ∃ S' : Nat → Prop, Own RGen 3 50 (w1.alloc (.cells #[.int .i64 k, .string t, .slice A1 n.length c1] 50)) base S' v l ∧
      (∀ i z, [((k, t.data.toList, n) : Gen)][i]? = some z → ∃ cs, RGen (w1.alloc (.cells #[.int .i64 k, .string t, .slice A1 n.length c1] 50)) S' z cs ∧ ∀ j u, cs[j]? = some u → (w1.alloc (.cells #[.int .i64 k, .string t, .slice A1 n.length c1] 50)).cell? ((⟨w1.heap.size, 0, none⟩ : Addr).add (i * 3 + j)) = some u) ∧
      ∀ j, S' j → (S j ∨ wr.heap.size ≤ j) ∧ j < (w1.alloc (.cells #[.int .i64 k, .string t, .slice A1 n.length c1] 50)).heap.size := by
  obtain ⟨S', hS'⟩ : ∃ S' : Nat → Prop, S' = fun j => S j ∨ (wr.heap.size ≤ j ∧ j < w1.heap.size) := ⟨_, rfl⟩
  have hS2 : ∀ j, S' j → (S j ∨ wr.heap.size ≤ j) ∧ j < w1.heap.size := fun j hj => by
    rw [hS'] at hj
    rcases hj with hj | hj
    · exact ⟨.inl hj, by have := hS j hj; omega⟩
    · exact ⟨.inr hj.1, hj.2⟩
  have hnoS : ∀ g, v.ownBlock = some g → ¬ S' g := fun g hg hh => by
    rw [hS'] at hh
    have hlt := (hown.lt g hg).2
    rcases hh with hh | hh
    · obtain ⟨_, _, h2, _⟩ := hown
      exact h2 g hg hh
    · omega
  have hownO := ((hown.ex RGen.ok hex hd hS).more RGen.ok (fun j hj => by rw [hS']; exact .inl hj) hnoS)
  have hownA := hownO.alloc RGen.ok (fun j hj => (hS2 j hj).2) (.cells #[.int .i64 k, .string t, .slice A1 n.length c1] 50)
  refine ⟨S', hownA, fun i z hz => ?_, fun j hj => ⟨(hS2 j hj).1, by have := (hS2 j hj).2; simp; omega⟩⟩
  match i, hz with
  | 0, hz =>
    simp at hz; subst hz
    refine ⟨[.int .i64 k, .string t, .slice A1 n.length c1], ⟨_, rfl, (Sl.ok RRdn.ok).mono h1 (fun j hj => Below.heap_alloc _ _ j hj.2) (fun j hj => by rw [hS']; exact .inr hj)⟩, fun j u hu => ?_⟩
    rw [Addr.add_lit, Nat.zero_mul, Nat.zero_add, Nat.zero_add, World.cell?_alloc_new]
    simpa using hu
theorem Own.slO {α : Type} {R : Rep α} {size : Nat} {e : TypeId} {w : World} {base : Nat} {S : Nat → Prop} {v : Value} {l : List α} (hR : RepOk R size) (h : Own R size e w base S v l) :
  Sl R size w (fun k => S k ∨ v.ownBlock = some k) l [v] := by
 obtain ⟨xs, ⟨hl, h1⟩, h2, h3⟩ := h
 rcases h1 with ⟨rfl, hn⟩ | ⟨g, cap, cur, rfl, hb, hg, hnc, hcm, hsz, htk⟩
 ·refine ⟨none, 0, by rw [hn], by omega, by simp [maxLen], fun h0 => by omega⟩
 ·refine ⟨some ⟨g, 0, none⟩, cap, rfl, hnc, hcm, fun h0 => ⟨g, 0, rfl, .inr rfl, fun i x hx => ?_⟩⟩
  obtain ⟨ys, hr, hc⟩ := h3 i x hx
  refine ⟨ys, hR.mono hr (fun _ _ => rfl) (fun k hk => .inl hk), fun j u hu => ?_⟩
  have hxu := hc j u hu
  rw [← htk, List.getElem?_take] at hxu
  split at hxu
  ·rw [Nat.zero_add, cell_of_row w g _ cur e (0, 0) hg]
   simpa using hxu
  ·cases hxu
structure AfterS (w : World) (d g3 g5 : Nat) (r0 r1 : Value) (P X : List Gen) (A B : Option Addr) (c e : Nat) (W : World) : Prop where
 base : Below w.heap.size w W
 wd : w.heap.size ≤ d
 dk : DeckAt W d
 d3 : g3 ≠ d
 d5 : g5 ≠ d
 s3 : SB g3 (.slice A P.length c) (.slice B X.length e) W
 s5 : SB g5 r0 r1 W
 kp : Sl RGen 3 W (Nd d W.heap.size) P [.slice A P.length c]
 kx : Sl RGen 3 W (Nd d W.heap.size) X [.slice B X.length e]
 sm : SmallGs (P ++ X)
def T3S (g : Nat) (W : World) : Prop := ∀ k, k < 3 → ∃ (p x : List Gen) (A B : Option Addr) (c e : Nat), W.cell? ⟨g, k * 2, none⟩ = some (.slice A p.length c) ∧ W.cell? ⟨g, k * 2 + 1, none⟩ = some (.slice B x.length e) ∧
 Sl RGen 3 W (Lt W.heap.size) p [.slice A p.length c] ∧ Sl RGen 3 W (Lt W.heap.size) x [.slice B x.length e] ∧ SmallGs (p ++ x)
theorem T3S.new {W : World} {T : TypeId} {p0 x0 p1 x1 p2 x2 : List Gen} {A0 B0 A1 B1 A2 B2 : Option Addr} {c0 e0 c1 e1 c2 e2 : Nat}
  (h0 : Sl RGen 3 W (Lt W.heap.size) p0 [.slice A0 p0.length c0]) (h1 : Sl RGen 3 W (Lt W.heap.size) x0 [.slice B0 x0.length e0]) (h2 : Sl RGen 3 W (Lt W.heap.size) p1 [.slice A1 p1.length c1]) (h3 : Sl RGen 3 W (Lt W.heap.size) x1 [.slice B1 x1.length e1])
  (h4 : Sl RGen 3 W (Lt W.heap.size) p2 [.slice A2 p2.length c2]) (h5 : Sl RGen 3 W (Lt W.heap.size) x2 [.slice B2 x2.length e2]) (s0 : SmallGs (p0 ++ x0)) (s1 : SmallGs (p1 ++ x1)) (s2 : SmallGs (p2 ++ x2)) :
  T3S W.heap.size (W.alloc (.cells #[.slice A0 p0.length c0, .slice B0 x0.length e0, .slice A1 p1.length c1, .slice B1 x1.length e1, .slice A2 p2.length c2, .slice B2 x2.length e2] T)) := by
 have hb : Below W.heap.size W (W.alloc (.cells #[.slice A0 p0.length c0, .slice B0 x0.length e0, .slice A1 p1.length c1, .slice B1 x1.length e1, .slice A2 p2.length c2, .slice B2 x2.length e2] T)) := (Below.refl _ _).alloc (Nat.le_refl _) _
 intro k hk
 match k, hk with
 | 0, _ => exact ⟨p0, x0, A0, B0, c0, e0, by rw [World.cell?_alloc_new]; rfl, by rw [World.cell?_alloc_new]; rfl, (Sl.ok RGen.ok).below h0 hb, (Sl.ok RGen.ok).below h1 hb, s0⟩
 | 1, _ => exact ⟨p1, x1, A1, B1, c1, e1, by rw [World.cell?_alloc_new]; rfl, by rw [World.cell?_alloc_new]; rfl, (Sl.ok RGen.ok).below h2 hb, (Sl.ok RGen.ok).below h3 hb, s1⟩
 | 2, _ => exact ⟨p2, x2, A2, B2, c2, e2, by rw [World.cell?_alloc_new]; rfl, by rw [World.cell?_alloc_new]; rfl, (Sl.ok RGen.ok).below h4 hb, (Sl.ok RGen.ok).below h5 hb, s2⟩
theorem SmallGs.two {p x : List Gen} (hp : SmallGs p) (hx : SmallGs x) : SmallGs (p ++ x) := fun g hg => by
 rcases List.mem_append.1 hg with h | h
 ·exact hp g h
 ·exact hx g h
theorem SmallGs.med {l : List Gen} (h : SmallGs l) : MedGs l := fun g hg => ⟨by have := (h g hg).1; omega, (h g hg).2⟩
theorem GoodGen.small9 {g : Gen} (h : GoodGen g) : SmallG g := h.small
set_option maxRecDepth 100000 in
set_option maxHeartbeats 16000000 in
theorem SubtreeCheck_any (p x : List Gen) (g : Gen) (t : ByteArray) (l : List Int) (B1 B2 A A0 : Option Addr) (d1 d2 c n0 c0 : Nat) (n : Int) (ht : t.data.toList = g.2.1) (hn : (Lit.int .u8 n).wf = true) (w : World) (hmx : Mx w)
  (h2 : Sl RGen 3 w (Lt w.heap.size) p [.slice B1 p.length d1]) (h3 : Sl RGen 3 w (Lt w.heap.size) x [.slice B2 x.length d2]) (h4 : Sl RRdn 1 w (Lt w.heap.size) g.2.2 [.slice A g.2.2.length c]) (h : Sl RInt 1 w (Lt w.heap.size) l [.slice A0 n0 c0]) :
  Calls Tryz.prog 8 #[.agg #[.slice B1 p.length d1, .slice B2 x.length d2], .agg #[.int .i64 g.1, .string t, .slice A g.2.2.length c], .slice A0 n0 c0, .int .u8 n] w fun e w' => e = .returned (.bool true) ∧ Below w.heap.size w w' := by
 have hn' : 0 ≤ n ∧ n ≤ 255 := by simpa [Lit.wf, IntKind.min, IntKind.max, IntKind.signed, IntKind.bits] using hn
 have HMX := hide hmx
 have K0 := hide h
 have K2 := hide h2
 have K3 := hide h3
 have K4 := hide h4
 have HT := hide ht
 obtain ⟨wa, hwa⟩ : ∃ wa, wa = (w.alloc (.cells #[.slice B1 p.length d1, .slice B2 x.length d2] 60)).alloc (.cells #[.int .i64 g.1, .string t, .slice A g.2.2.length c] 50) := ⟨_, rfl⟩
 have hz1 : (w.alloc (.cells #[.slice B1 p.length d1, .slice B2 x.length d2] 60)).heap.size = w.heap.size + 1 := by simp
 have hsb : SB w.heap.size (.slice B1 p.length d1) (.slice B2 x.length d2) wa := by
  unfold SB
  rw [hwa, Below.heap_alloc _ _ _ (by simp <;> omega)]
  exact heap_alloc_new _ _
 have hgb : GB (w.heap.size + 1) g.1 t (.slice A g.2.2.length c) wa := by
  unfold GB
  rw [hwa, ← hz1]
  exact heap_alloc_new _ _
 have hba : Below w.heap.size w wa := by rw [hwa]; exact ((Below.refl _ _).alloc (Nat.le_refl _) _).alloc (by simp) _
 have hza : wa.heap.size = w.heap.size + 2 := by rw [hwa]; simp
 obtain ⟨g5, hg5⟩ : ∃ g, g = w.heap.size := ⟨_, rfl⟩
 obtain ⟨g6, hg6⟩ : ∃ g, g = w.heap.size + 1 := ⟨_, rfl⟩
 rw [← hg5] at hsb
 rw [← hg6] at hgb
 have h5a : g5 < wa.heap.size := by omega
 have h6a : g6 < wa.heap.size := by omega
 obtain ⟨z0, z1, -⟩ := hsb.facts
 have HSB := hide hsb
 have HGB := hide hgb
 have HBA := hide hba
 have HWA := hide hwa
 have HG5 := hide hg5
 have HG6 := hide hg6
 obtain ⟨p1, hp1⟩ : ∃ q, shortS (p, x) = q := ⟨_, rfl⟩
 obtain ⟨p3, hp3⟩ : ∃ q, shortGs [g] = q := ⟨_, rfl⟩
 have HP1 := hide hp1
 have HP3 := hide hp3
 clear hmx h h2 h3 h4 ht hwa hz1 hsb hgb hba hza hg5 hg6 hp1 hp3 hn
 go_enter Tryz.func8, Tryz.ntmps8
 go_upto_region 1 with (fail)
 rw [← HWA.out, ← HG6.out, ← HG5.out]
 go_wp2_with fail
 refine (short_any p x B1 B2 d1 d2 p1 HP1.out _ ((Sl.ok RGen.ok).below K2.out HBA.out) ((Sl.ok RGen.ok).below K3.out HBA.out)).mono ?_
 rintro e w1 ⟨rfl, hb1⟩
 have HB1 := hide (HBA.out.trans (hb1.mono HBA.out.size))
 have HC1 := hide hb1
 clear hb1 z0 z1
 cases p1
 ·go_wp2_with fail
  refine (sawake_any _ (HMX.out.below HB1.out)).mono ?_
  rintro e wz ⟨rfl, hbz⟩
  go_wp2_with fail
  go_ret
  exact ⟨rfl, HB1.out.trans (hbz.mono HB1.out.size)⟩
 ·obtain ⟨k0, k1, k2, -, -, -⟩ := (HGB.out.below HC1.out).facts
  have HONE := hide (one_genS (T := 50) HT.out ((Sl.ok RRdn.ok).below K4.out HB1.out) (fun k hk => hk))
  have hb23 : Below w1.heap.size w1 (w1.alloc (.cells #[.int .i64 g.1, .string t, .slice A g.2.2.length c] 50)) := (Below.refl _ _).alloc (Nat.le_refl _) _
  have HB3 := hide (HB1.out.trans (hb23.mono HB1.out.size))
  have HC3 := hide (HC1.out.trans (hb23.mono HC1.out.size))
  have SN := hide (show Calls Tryz.prog 46 #[.slice (some ⟨w1.heap.size, 0, none⟩) 1 1] (w1.alloc (.cells #[.int .i64 g.1, .string t, .slice A g.2.2.length c] 50)) _ from ShortNames_any [g] (some ⟨w1.heap.size, 0, none⟩) 1 p3 HP3.out _ HONE.out)
  clear hb23
  go_wp2_with fail
  refine SN.out.mono ?_
  rintro e w4 ⟨rfl, hb4⟩
  have HB4 := hide (HB3.out.trans (hb4.mono HB3.out.size))
  have HC4 := hide (HC3.out.trans (hb4.mono HC3.out.size))
  clear hb4 k0 k1 k2 SN HONE
  cases p3
  ·go_wp2_with fail
   refine (sawake_any _ (HMX.out.below HB4.out)).mono ?_
   rintro e wz ⟨rfl, hbz⟩
   go_wp2_with fail
   go_ret
   exact ⟨rfl, HB4.out.trans (hbz.mono HB4.out.size)⟩
  ·have HSR := hide (show SmallGs (p ++ x) from SmallGs.two (shortS_small HP1.out).1 (shortS_small HP1.out).2)
   have HSG := hide (show SmallG g from shortGs_small HP3.out g (by simp))
   have NW := hide (New_any l A0 n0 c0 w4 ((Sl.ok RInt.ok).below K0.out HB4.out))
   obtain ⟨N, hN⟩ : ∃ N : Nat, n % 20 = (N : Int) := ⟨(n % 20).toNat, by omega⟩
   have hN19 : N ≤ 19 := by omega
   clear HP1 HP3
   go_wp2_with fail
   refine NW.out.mono ?_
   rintro e w3 ⟨rfl, hdk3, hb3⟩
   obtain ⟨d, hd⟩ : ∃ d, d = w4.heap.size := ⟨_, rfl⟩
   rw [← hd] at hdk3 ⊢
   have h5d : g5 < d := by have := HC4.out.size; omega
   have h6d : g6 < d := by have := HC4.out.size; omega
   have hwd : w.heap.size ≤ d := by rw [hd]; exact HB4.out.size
   have HB3' := hide (HB4.out.trans (hb3.mono HB4.out.size))
   have HC3' := hide (HC4.out.trans (hb3.mono HC4.out.size))
   have HDK3 := hide hdk3
   have hdw3 := hdk3.lt
   clear hb3 hdk3 hd NW
   go_wp2_with fail
   refine (Subtrees2_any d _ HDK3.out).mono ?_
   rintro e w6 ⟨ps, xs, AP, AX, cp, cx, b1, b2, S1, S2, hgs, -, rfl, ⟨hwb1, hb12, hb26⟩, hop, hS1, hv1, hox, hS2, hdk6, hex6⟩
   have hl1 : ps.length ≤ 4 := hgs.1
   have hl2 : xs.length ≤ 4 := hgs.2.1
   obtain ⟨w5, hw5⟩ : ∃ w5, w5 = w6.alloc (.cells #[.slice AP ps.length cp, .slice AX xs.length cx] 60) := ⟨_, rfl⟩
   obtain ⟨g3, hg3⟩ : ∃ g, g = w6.heap.size := ⟨_, rfl⟩
   have hsb3 : SB g3 (.slice AP ps.length cp) (.slice AX xs.length cx) w5 := by rw [hw5, hg3]; exact heap_alloc_new w6 _
   have hop5 : Own RGen 3 50 w5 b1 S1 (.slice AP ps.length cp) ps := by rw [hw5]; exact hop.alloc RGen.ok (fun k hk => by have := (hS1 k hk).2; omega) _
   have hox5 : Own RGen 3 50 w5 b2 S2 (.slice AX xs.length cx) xs := by rw [hw5]; exact hox.alloc RGen.ok (fun k hk => (hS2 k hk).2) _
   have HDK5 := hide (show DeckAt w5 d by rw [hw5]; exact hdk6.alloc _)
   have hex5 : Ex d w3 w5 := by rw [hw5]; exact hex6.alloc _
   have hz5 : w5.heap.size = w6.heap.size + 1 := by rw [hw5]; simp
   have h3w5 : g3 < w5.heap.size := hsb3.lt
   have hdb1 : d < b1 := by omega
   have h3d : d < g3 := by omega
   have hb23 : b2 ≤ g3 := by omega
   have HSB3 := hide hsb3
   have HOP := hide hop5
   have HOX := hide hox5
   have HS1 := hide hS1
   have HS2 := hide (show ∀ j, S2 j → b2 ≤ j ∧ j < g3 from fun j hj => ⟨(hS2 j hj).1, by have := (hS2 j hj).2; omega⟩)
   have HV2 := hide (show ∀ b, (Value.slice AX xs.length cx).ownBlock = some b → b2 ≤ b ∧ b < g3 from fun b hb => by have := hox.lt b hb; omega)
   have HV1 := hide hv1
   have HGS := hide hgs
   have HEX5 := hide hex5
   have HW5 := hide hw5
   have HG3 := hide hg3
   clear hgs hop hS1 hv1 hox hS2 hdk6 hex6 hw5 hg3 hsb3 hop5 hox5 hex5
   go_upto_region 5 with (fail)
   rw [← HW5.out]
   try rw [← HG3.out]
   go_wp2_with fail
   refine (Next_any d 4 (by omega) (by omega) _ HDK5.out).mono ?_
   rintro e w8 ⟨v, hv, rfl, hdk8, hex8⟩
   have hsz8 := hex8.size
   have hb18 : b1 ≤ w8.heap.size := by omega
   have hb28 : b2 ≤ w8.heap.size := by omega
   have h3w8 : g3 < w8.heap.size := by omega
   have hd8 : d < w8.heap.size := by omega
   have hexA := HEX5.out.trans hex8
   have HOP8 := hide (HOP.out.ex RGen.ok hex8 hdb1 (fun j hj => ⟨(HS1.out j hj).1, by have := (HS1.out j hj).2; omega⟩))
   have HOX8 := hide (HOX.out.ex RGen.ok hex8 (by omega) (fun j hj => ⟨(HS2.out j hj).1, by have := (HS2.out j hj).2; omega⟩))
   have HSB38 := hide (HSB3.out.ex hex8 (by omega))
   have HSB8 := hide (show SB g5 (.slice B1 p.length d1) (.slice B2 x.length d2) w8 from (HSB.out.base HC3'.out h5a).ex hexA (by omega))
   have HGB8 := hide (show GB g6 g.1 t (.slice A g.2.2.length c) w8 from (HGB.out.below HC3'.out).ex hexA (by omega))
   have HS18 := hide (show ∀ j, S1 j → b1 ≤ j ∧ j < w8.heap.size from fun j hj => ⟨(HS1.out j hj).1, by have := (HS1.out j hj).2; omega⟩)
   have HS28 := hide (show ∀ j, S2 j → b2 ≤ j ∧ j < w8.heap.size from fun j hj => ⟨(HS2.out j hj).1, by have := (HS2.out j hj).2; omega⟩)
   have HB8 := hide (show Below w.heap.size w w8 from Ex.below HB3'.out HB3'.out.size hwd hexA)
   have HDK8 := hide hdk8
   clear hdk8 hex8 hexA HSB3 HOP HOX HEX5 HDK5 hsz8
   by_cases hv0 : v = 0
   ·have t0 : ((v : Int) == 0) = true := by rw [hv0]; rfl
    have t1 : ((v : Int) == 1) = false := by rw [hv0]; rfl
    have hKG : Sl RRdn 1 w8 (Lt w.heap.size) g.2.2 [.slice A g.2.2.length c] := (Sl.ok RRdn.ok).mono K4.out (fun k hk => HB8.out.block k hk) (fun _ hk => hk)
    obtain ⟨S', hc0, hc1, hc2, hc3⟩ := gen_step_arg (g := g) (t := t) HOP8.out HS18.out (B := w.heap.size) (by omega) hb18 HT.out hKG
    obtain ⟨x30, x31, -, -⟩ := HSB38.out.facts
    obtain ⟨k0, k1, k2, -, -, -⟩ := HGB8.out.facts
    have x30a := fun ob => (HSB38.out.alloc ob).facts.1
    clear hKG hv0
    go_wp2_with (at_builtin; refine wpList_app RGen.ok _ rfl (.tmp 38) (.tmp 40) 53 rfl b1 50 (.agg #[.int .i64 0, .string ⟨#[]⟩, .slice none 0 0]) 48 Tryz.underlying53 info_gen rfl (by decide) S' (.slice AP ps.length cp) ps rfl hc1 ⟨_, 0, none⟩ 1 1 [g] rfl rfl hc2 hc3 (by simp; omega) (by simp [maxLen]; omega) (by simp; omega) ?_; intro v6 w9 hown6 hgr6 hb6 hat6; obtain ⟨A8, c8, hv8⟩ := (hown6.sl RGen.ok).shape; obtain ⟨n8, hn8⟩ : ∃ n8, (ps ++ [g]).length = n8 := ⟨_, rfl⟩; rw [hn8] at hv8; subst hv8; have HN8 := hide hn8; clear hn8; have hs39 : SB g3 (.slice AP ps.length cp) (.slice AX xs.length cx) w9 := (hgr6.block g3 (by simp; omega) (fun e => by have := HV1.out g3 e.symm; omega)).trans (HSB38.out.alloc _); obtain ⟨q1, q2, q3, q4⟩ := hs39.facts)
    have hz9 := hb6.size
    rw [World.size_alloc] at hz9
    have ho6 : ∀ k, (Value.slice A8 n8 c8).ownBlock = some k → b1 ≤ k ∧ k < w9.heap.size ∧ k ≠ g3 := fun k hk => by
     refine ⟨(hown6.lt k hk).1, (hown6.lt k hk).2, ?_⟩
     rcases hat6 with h | h
     ·have := HV1.out k (by rw [← h]; exact hk); omega
     ·rw [hk, World.size_alloc] at h
      simp only [Option.some.injEq] at h
      omega
    have hkp := hown6.slO RGen.ok
    have hkx := HOX8.out.slO RGen.ok
    have HSM9 := hide (show SmallGs ((ps ++ [g]) ++ xs) from SmallGs.two (SmallGs.two (fun y hy => (HGS.out.2.2.1 y hy).small) (fun y hy => by rw [List.mem_singleton.1 hy]; exact HSG.out)) (fun y hy => (HGS.out.2.2.2 y hy).small))
    have HAF := hide (show AfterS w d g3 g5 (.slice B1 p.length d1) (.slice B2 x.length d2) (ps ++ [g]) xs A8 AX c8 cx (w9.setCell ⟨g3, 0, none⟩ (.slice A8 n8 c8)) from {
     base := ((HB8.out.alloc HB8.out.size _).trans (hb6.mono (by omega))).setCell (p := ⟨g3, 0, none⟩) (by show w.heap.size ≤ g3; omega) _
     wd := hwd
     dk := ((HDK8.out.alloc _).keep (hb6.mono (by omega))).set_ h3d _
     d3 := by omega
     d5 := by omega
     s3 := by rw [HN8.out]; exact hs39.store0 _
     s5 := ((HSB8.out.alloc _).base hb6 (by omega)).other (k := g3) (by omega) _
     kp := by
      rw [HN8.out]
      exact (Sl.ok RGen.ok).mono hkp (fun k hk => Below.heap_setCell _ ⟨g3, 0, none⟩ _ k (by
      show k ≠ g3
      rcases hk with hk | hk
      ·rcases hc0 k hk with h | h
       ·have := (HS1.out k h).2; omega
       ·omega
      ·exact (ho6 k hk).2.2)) (fun k hk => by
      rw [Nd, World.size_setCell]
      rcases hk with hk | hk
      ·have h3 := hc3 k hk
       rw [World.size_alloc] at h3
       rcases hc0 k hk with h | h
       ·have := (HS1.out k h).1; omega
       ·omega
      ·have := ho6 k hk; omega)
     kx := (Sl.ok RGen.ok).mono hkx (fun k hk => by
      have hk2 : b2 ≤ k ∧ k < g3 := by
       rcases hk with hk | hk
       ·exact HS2.out k hk
       ·exact HV2.out k hk
      exact (Below.heap_setCell _ ⟨g3, 0, none⟩ _ k (by show k ≠ g3; omega)).trans ((hgr6.block k (by simp; omega) (fun e => by have := HV1.out k e.symm; omega)).trans (Below.heap_alloc _ _ k (by omega)))) (fun k hk => by
      rw [Nd, World.size_setCell]
      have hk2 : b2 ≤ k ∧ k < g3 := by
       rcases hk with hk | hk
       ·exact HS2.out k hk
       ·exact HV2.out k hk
      omega)
     sm := HSM9.out })
    obtain ⟨PL, hPL⟩ : ∃ L, L = ps ++ [g] := ⟨_, rfl⟩
    rw [← hPL] at HAF
    obtain ⟨ws, hws⟩ : ∃ W, W = w9.setCell ⟨g3, 0, none⟩ (.slice A8 n8 c8) := ⟨_, rfl⟩
    have hzs : w9.heap.size = ws.heap.size := by rw [hws]; simp
    rw [← hws] at HAF ⊢
    try rw [hzs]
    clear hzs hws hkp hkx HN8 ho6 hz9 hown6 hgr6 hb6 hat6 hs39 q1 q2 q3 q4 hc0 hc1 hc2 hc3 x30 x31 k0 k1 k2 x30a HOP8 HOX8 HSB38 HSB8 HGB8 HS18 HS28 HB8 HDK8 HS1 HS2 HV1 HV2 HGS HW5 HG3 hPL HSM9 hb18 hb28 h3w8 hd8 t0 t1 hwd hdw3 hl1 hl2 hz5 hdb1 h3d hb23 hwb1 hb12 hb26 h5d h6d
    have hdws : d < ws.heap.size := HAF.out.dk.lt
    have h3ws : g3 < ws.heap.size := HAF.out.s3.lt
    have h5ws : g5 < ws.heap.size := HAF.out.s5.lt
    obtain ⟨g11, hg11⟩ : ∃ g, g = ws.heap.size := ⟨_, rfl⟩
    obtain ⟨wt, hwt⟩ : ∃ W, W = ws.alloc (.cells #[.slice none 0 0, .slice none 0 0] 60) := ⟨_, rfl⟩
    have hsb11 : SB g11 (.slice none 0 0) (.slice none 0 0) wt := by rw [hwt, hg11]; exact heap_alloc_new ws _
    have HEXT := hide (show Ex d ws wt by rw [hwt]; exact (Ex.refl d ws).alloc _)
    have HDKT := hide (show DeckAt wt d by rw [hwt]; exact HAF.out.dk.alloc _)
    have hzt : wt.heap.size = ws.heap.size + 1 := by rw [hwt]; simp
    obtain ⟨base, hbase⟩ : ∃ b, b = ws.heap.size + 1 := ⟨_, rfl⟩
    have hbt : base ≤ wt.heap.size := by omega
    have hg3b : g11 < base := by omega
    have hdb : d < base := by omega
    have hg3d : g11 ≠ d := by omega
    have hd11 : d < g11 := by omega
    have hwb : ws.heap.size ≤ base := by omega
    have hws11 : ws.heap.size ≤ g11 := by omega
    have HSB11 := hide hsb11
    have HWT := hide hwt
    have HG11 := hide hg11
    clear hsb11 hwt hg11 hzt hbase
    try go_upto_region 11 with (fail)
    rw [← HWT.out]
    try rw [← HG11.out]
    go_wp2_with fail
    go_loopw [12] (fun i wr => ∃ (k : Nat) (m : List Gen) (v : Value) (S : Nat → Prop), k ≤ N ∧ m.length = k ∧ i = .int .i64 k ∧ Ex d ws wr ∧ DeckAt wr d ∧ base ≤ wr.heap.size ∧ SB g11 v (.slice none 0 0) wr ∧ Own RGen 3 50 wr base S v m ∧ (∀ j, S j → base ≤ j ∧ j < wr.heap.size) ∧ ∀ g ∈ m, GoodBase g) (fun i _ => N - (intOf i).toNat)
    case atStart => exact ⟨0, [], _, No, by omega, rfl, rfl, HEXT.out, HDKT.out, hbt, HSB11.out, Own.nil _ _ _ _ _ _, fun j h => h.elim, fun x hx => by cases hx⟩
    case round =>
     obtain ⟨k, m, v, S, hk, hmk, rfl, hex, hdk, hgs, hsb, hown, hS, hgm⟩ := hrel
     obtain ⟨A9, c9, hv9⟩ := (hown.sl RGen.ok).shape
     subst hv9
     clear HSB11 HEXT HDKT
     have HSB := hide hsb
     have HMK := hide hmk
     have HEX := hide hex
     have HDK := hide hdk
     have HOWN := hide hown
     have HS := hide hS
     have HGM := hide hgm
     have hm19 : m.length ≤ 19 := by omega
     clear hmk hex hdk hown hS hgm hsb
     by_cases hlt : k < N
     ·have hlt' : (k : Int) < n % 20 := by omega
      have HSBD := hide (show SB g11 _ _ wr.drew from HSB.out)
      have y0d : wr.drew.cell? ⟨g11, 0, none⟩ = some (.slice A9 m.length c9) := HSBD.out.facts.1
      have E0 := hide (Base_any d wr.drew (HDK.out.drewN 1))
      go_upto_region 14 with (fail)
      go_region_law (first
       | (go_simp; go_at_call 48; refine E0.out.mono ?_; rintro e w5 ⟨g, t, A5, c5, hq, ht, rfl, hsl5, hdk5, hex5⟩; obtain ⟨kk, tt, nn⟩ := g; obtain rfl : t.data.toList = tt := ht; have HQ := hide hq; have hex5 : Ex d wr w5 := (Ex.refl d wr).drew.trans hex5; have hz5 := hex5.size; obtain ⟨S', hc1, hc2, hc3⟩ := gen_step_ex2 (k := kk) (t := t) HOWN.out HS.out hex5 hdb hz5 hsl5; have hsg5 := HSB.out.ex hex5 hg3d; have hs1 : w5.cell? ⟨g11, 0, none⟩ = some (.slice A9 m.length c9) := hsg5.facts.1; have ha1 := fun ob => (hsg5.alloc ob).facts.1)
       | (refine step_app RGen.ok _ ?_ (.tmp 61) (.tmp 64) 53 ?_ base 50 (.agg #[.int .i64 0, .string ⟨#[]⟩, .slice none 0 0]) 48 Tryz.underlying53 info_gen rfl (by decide) S' (.slice A9 m.length c9) m ?_ hc1 ⟨w5.heap.size, 0, none⟩ 1 1 [(kk, t.data.toList, nn)] ?_ rfl ?_ (fun b hb => (hc3 b hb).2) ?_ ?_ ?_ ?_; rfl; rfl; rfl; rfl; exact hc2; (simp; omega); (simp [maxLen]; omega); (rw [World.size_alloc]; omega); intro v7 w7 hown7 hgr7 hb7 hat7; obtain ⟨A8, c8, hv8⟩ := (hown7.sl RGen.ok).shape; obtain ⟨n8, hn8⟩ : ∃ n8, (m ++ [((kk, t.data.toList, nn) : Gen)]).length = n8 := ⟨_, rfl⟩; rw [hn8] at hv8; subst hv8; have HN8 := hide hn8; clear hn8; have hg7 : SB g11 _ _ w7 := (hsg5.alloc _).base hb7 hg3b; have q1 := hg7.facts.1; have q2 := hg7.facts.2.1; have q3 := hg7.facts.2.2.1; have q4 := hg7.facts.2.2.2; have hsz7 := hb7.size; rw [World.size_alloc] at hsz7))
      all_goals
       have hS5 : ∀ j, S' j → base ≤ j ∧ j < w5.heap.size + 1 := fun j hj => by
        have h1 := hc3 j hj
        rw [World.size_alloc] at h1
        rcases h1.1 with h | h
        ·exact ⟨(HS.out j h).1, h1.2⟩
        ·exact ⟨by omega, h1.2⟩
       have hexf : Ex d ws w7 := ((HEX.out.trans hex5).alloc _).then_base (hb7.mono hwb)
       have hdkf : DeckAt w7 d := (hdk5.alloc _).keep (hb7.mono (by omega))
       have HEXF := hide hexf
       have HDKF := hide hdkf
       go_wp2_with fail
       go_roundw
       case rel => exact ⟨k + 1, m ++ [(kk, t.data.toList, nn)], _, S', by omega, by simp [HMK.out], by go_num, HEXF.out.setNew hws11 _, HDKF.out.set_ hd11 _, by simp; omega, hg7.store0 _, hown7.other RGen.ok (fun j hj => (hS5 j hj).1) hg3b _, fun j hj => ⟨(hS5 j hj).1, by have := (hS5 j hj).2; simp; omega⟩, fun g hg => by
        rcases List.mem_append.1 hg with hg | hg
        ·exact HGM.out g hg
        ·simp at hg; subst hg; exact HQ.out⟩
       case measure => simp [intOf]; omega
     ·have hlt' : ¬ (k : Int) < n % 20 := by omega
      have hslm := (Sl.ok RGen.ok).mono (HOWN.out.sl RGen.ok) (fun _ _ => rfl) (S' := Lt wr.heap.size) (fun j hj => by rcases hj with hj | hj; exact (HS.out j hj).2; exact hj.2)
      have hsgm : SmallGs (m ++ []) := by rw [List.append_nil]; exact fun g hg => (HGM.out g hg).small
      have hbw : Below w.heap.size w wr := Ex.below HAF.out.base HAF.out.base.size HAF.out.wd HEX.out
      have h3w := HAF.out.s3.ex HEX.out HAF.out.d3
      have h5w := HAF.out.s5.ex HEX.out HAF.out.d5
      obtain ⟨x30, x31, -, -⟩ := h3w.facts
      obtain ⟨x50, x51, -, -⟩ := h5w.facts
      obtain ⟨x110, x111, -, -⟩ := HSB.out.facts
      have hkp : Sl RGen 3 wr (Lt wr.heap.size) PL [.slice A8 PL.length c8] := (Sl.ok RGen.ok).mono ((Sl.ok RGen.ok).ex HAF.out.kp HEX.out) (fun _ _ => rfl) (fun k hk => hk.1)
      have hkx : Sl RGen 3 wr (Lt wr.heap.size) xs [.slice AX xs.length cx] := (Sl.ok RGen.ok).mono ((Sl.ok RGen.ok).ex HAF.out.kx HEX.out) (fun _ _ => rfl) (fun k hk => hk.1)
      have ht3 := T3S.new (T := 60) ((Sl.ok RGen.ok).below K2.out hbw) ((Sl.ok RGen.ok).below K3.out hbw) hkp hkx hslm (Sl.nil RGen 3 wr (Lt wr.heap.size)) HSR.out HAF.out.sm hsgm
      obtain ⟨wL, hwL⟩ : ∃ W, W = wr.alloc (.cells #[.slice B1 p.length d1, .slice B2 x.length d2, .slice A8 PL.length c8, .slice AX xs.length cx, .slice A9 m.length c9, .slice none 0 0] 60) := ⟨_, rfl⟩
      have ht3' : T3S wr.heap.size wL := by rw [hwL]; exact ht3
      have hbL : Below w.heap.size w wL := by rw [hwL]; exact hbw.alloc hbw.size _
      obtain ⟨gL, hgL⟩ : ∃ g, g = wr.heap.size := ⟨_, rfl⟩
      have hgLL : gL < wL.heap.size := by rw [hgL, hwL]; simp
      rw [← hgL] at ht3'
      have HT3 := hide ht3'
      have HBL := hide hbL
      have HWL := hide hwL
      have HGL := hide hgL
      clear hslm hsgm hbw h3w h5w hkp hkx ht3 ht3' hbL hwL hgL HSB HMK HEX HDK HOWN HS HGM hgs hk hlt hm19 HAF
      go_wp2_with fail
      rw [← HWL.out]
      try rw [← HGL.out]
      clear x30 x31 x50 x51 x110 x111
      go_loopw [72] (fun i wi => ∃ j : Nat, j ≤ 3 ∧ i = .int .i64 j ∧ Below wL.heap.size wL wi) (fun i _ => 3 - (intOf i).toNat)
      case atStart => exact ⟨0, by omega, rfl, Below.refl _ _⟩
      case round =>
       obtain ⟨j, hj, rfl, hb⟩ := hrel
       obtain ⟨wi, rfl⟩ : ∃ wi : World, wi = wr := ⟨_, rfl⟩
       have HB := hide (HBL.out.trans (hb.mono HBL.out.size))
       by_cases hlt : j < 3
       ·obtain ⟨pp, xx, Ap, Ax, cp, cx, hz0, hz1, hsp, hsx, hsm⟩ := HT3.out j hlt
        have f0 := (hb.cell (p := ⟨gL, j * 2, none⟩) hgLL).trans hz0
        have f1 := (hb.cell (p := ⟨gL, j * 2 + 1, none⟩) hgLL).trans hz1
        obtain ⟨wx, hwx⟩ : ∃ W, W = wi.alloc (.cells #[.slice Ap pp.length cp, .slice Ax xx.length cx] 60) := ⟨_, rfl⟩
        obtain ⟨e0, e1⟩ := two_cells hwx
        have hbx : Below wi.heap.size wi wx := by rw [hwx]; exact (Below.refl _ _).alloc (Nat.le_refl _) _
        have HBX := hide (HB.out.trans (hbx.mono HB.out.size))
        have HBXL := hide (hb.trans (hbx.mono hb.size))
        have KP := hide ((Sl.ok RGen.ok).below hsp (hb.trans (hbx.mono hb.size)))
        have KX := hide ((Sl.ok RGen.ok).below hsx (hb.trans (hbx.mono hb.size)))
        have HSM := hide hsm
        obtain ⟨gx, hgx⟩ : ∃ g, wi.heap.size = g := ⟨_, rfl⟩
        rw [hgx] at e0 e1
        clear hz0 hz1 hsp hsx hsm hb hbx
        go_upto_region 18 with fail
        rw [← hwx]
        try rw [hgx]
        clear hwx hgx f0 f1
        obtain ⟨o, ho⟩ : ∃ o, encS (pp, xx) = o := ⟨_, rfl⟩
        have EN := hide (fun W (hb : Below wx.heap.size wx W) => SEncode_any pp xx Ap Ax cp cx HSM.out W (HMX.out.below (HBX.out.trans (hb.mono HBX.out.size))) ((Sl.ok RGen.ok).below KP.out hb) ((Sl.ok RGen.ok).below KX.out hb))
        have REN := hide (fun W (hb : Below wx.heap.size wx W) => rSEncode_any pp xx Ap Ax cp cx HSM.out W (HMX.out.below (HBX.out.trans (hb.mono HBX.out.size))) ((Sl.ok RGen.ok).below KP.out hb) ((Sl.ok RGen.ok).below KX.out hb))
        rw [ho] at EN REN
        obtain ⟨E, hE⟩ : ∃ E : ByteArray, (⟨o.1.toArray⟩ : ByteArray) = E := ⟨_, rfl⟩
        obtain ⟨ke, hke⟩ : ∃ k, o.2 = k := ⟨_, rfl⟩
        have HWR := hide (show wrapR o = .tuple #[.string E, .int .i64 ke] by rw [wrapR, hE, hke])
        obtain ⟨q, hq⟩ : ∃ q, chkS (pp, xx) = q := ⟨_, rfl⟩
        have C1 := hide (fun W (h0 : W.cell? ⟨gx, 0, none⟩ = some (.slice Ap pp.length cp)) (h1 : W.cell? ⟨gx, 1, none⟩ = some (.slice Ax xx.length cx)) (hb : Below wx.heap.size wx W) =>
         (SCheck_any pp xx Ap Ax cp cx HSM.out.med q hq W (HMX.out.below (HBX.out.trans (hb.mono HBX.out.size))) ((Sl.ok RGen.ok).below KP.out hb) ((Sl.ok RGen.ok).below KX.out hb)).mono (R' := fun e W' => e = .returned (.int .i64 q) ∧ W'.cell? ⟨gx, 0, none⟩ = some (.slice Ap pp.length cp) ∧ W'.cell? ⟨gx, 1, none⟩ = some (.slice Ax xx.length cx) ∧ Below wx.heap.size wx W')
         fun _ _ ⟨he, hb9⟩ => ⟨he, cell_grows hb9 _ _ h0, cell_grows hb9 _ _ h1, hb.trans (hb9.mono hb.size)⟩)
        have C2 := hide (fun W (h0 : W.cell? ⟨gx, 0, none⟩ = some (.slice Ap pp.length cp)) (h1 : W.cell? ⟨gx, 1, none⟩ = some (.slice Ax xx.length cx)) (hb : Below wx.heap.size wx W) =>
         (rSCheck_any pp xx Ap Ax cp cx HSM.out.med q hq W (HMX.out.below (HBX.out.trans (hb.mono HBX.out.size))) ((Sl.ok RGen.ok).below KP.out hb) ((Sl.ok RGen.ok).below KX.out hb)).mono (R' := fun e W' => e = .returned (.int .i64 q) ∧ W'.cell? ⟨gx, 0, none⟩ = some (.slice Ap pp.length cp) ∧ W'.cell? ⟨gx, 1, none⟩ = some (.slice Ax xx.length cx) ∧ Below wx.heap.size wx W')
         fun _ _ ⟨he, hb9⟩ => ⟨he, cell_grows hb9 _ _ h0, cell_grows hb9 _ _ h1, hb.trans (hb9.mono hb.size)⟩)
        have s1 : (q != q) = false := by simp
        have s2 : (E.toList != E.toList) = false := by simp
        have s3 : (ke != ke) = false := by simp
        clear ho hE hke hq
        go_wp2_with fail
        refine (EN.out _ (Below.refl _ _)).mono ?_
        rintro e w5 ⟨rfl, hb5⟩
        rw [HWR.out]
        have HB5 := hide hb5
        have z0 := cell_grows hb5 _ _ e0
        have z1 := cell_grows hb5 _ _ e1
        clear hb5 e0 e1
        go_wp2_with fail
        refine (REN.out _ HB5.out).mono ?_
        rintro e w6 ⟨rfl, hb6⟩
        rw [HWR.out]
        have f3 := HB5.out.trans (hb6.mono HB5.out.size)
        have f0 := cell_grows hb6 _ _ z0
        have f1 := cell_grows hb6 _ _ z1
        have f0d : w6.drew.cell? ⟨gx, 0, none⟩ = some (.slice Ap pp.length cp) := f0
        have f1d : w6.drew.cell? ⟨gx, 1, none⟩ = some (.slice Ax xx.length cx) := f1
        have f3d := f3.drew
        clear hb6 z0 z1
        go_upto_region 20 with fail
        go_region_held3 (fun W => W.cell? ⟨gx, 0, none⟩ = some (.slice Ap pp.length cp) ∧ W.cell? ⟨gx, 1, none⟩ = some (.slice Ax xx.length cx) ∧ Below wx.heap.size wx W)
         (first | exact ⟨hs1, hs2, hs3⟩ | exact ⟨f0, f1, f3⟩ | exact ⟨f0d, f1d, f3d⟩)
         (first
          | (go_at_call 50; (first | (with_reducible refine (C1.out _ hs1 hs2 hs3).mono ?_) | (with_reducible refine (C1.out _ f0d f1d f3d).mono ?_) | fail); rintro e wn ⟨rfl, hs1, hs2, hs3⟩)
          | (go_at_call 51; (first | (with_reducible refine (C2.out _ hs1 hs2 hs3).mono ?_) | (with_reducible refine (C2.out _ f0d f1d f3d).mono ?_) | fail); rintro e wn ⟨rfl, hs1, hs2, hs3⟩)
          | fail)
        all_goals
         have HBN := hide (HBXL.out.trans (hs3.mono HBXL.out.size))
         go_wp2_with fail
         go_roundw
         case rel => exact ⟨j + 1, by omega, by go_num, HBN.out⟩
         case measure => simp [intOf]; omega
       ·clear hb
        go_wp2_with fail
        refine (sawake_any _ (HMX.out.below HB.out)).mono ?_
        rintro e wz ⟨rfl, hbz⟩
        go_wp2_with fail
        go_ret
        exact ⟨rfl, HB.out.trans (hbz.mono HB.out.size)⟩
   ·have t0 : ((v : Int) == 0) = false := by rw [beq_eq_false_iff_ne]; omega
    by_cases hv1 : v = 1
    ·have t1 : ((v : Int) == 1) = true := by rw [hv1]; rfl
     clear hv0 hv1
     obtain ⟨wr, rfl⟩ : ∃ W : World, W = w8 := ⟨_, rfl⟩
     have HDK := HDK8
     have HOWN := HOX8
     have HS := HS28
     have hgs := hb28
     have hdb : d < b2 := by omega
     have hg3d : g3 ≠ d := by omega
     have HSBD := hide (show SB g3 _ _ wr.drew from HSB38.out)
     have y0d : wr.drew.cell? ⟨g3, 1, none⟩ = some (.slice AX xs.length cx) := HSBD.out.facts.2.1
     have E0 := hide (General_any d wr.drew (HDK.out.drewN 1))
     go_upto_region 9 with (fail)
     go_region_law (first
      | (go_simp; go_at_call 47; refine E0.out.mono ?_; rintro e w5 ⟨g, t, A5, c5, hq, ht, rfl, hsl5, hdk5, hex5⟩; obtain ⟨kk, tt, nn⟩ := g; obtain rfl : t.data.toList = tt := ht; have HQ := hide hq; have hex5 : Ex d wr w5 := (Ex.refl d wr).drew.trans hex5; have hz5 := hex5.size; obtain ⟨S', hc1, hc2, hc3⟩ := gen_step_ex2 (k := kk) (t := t) HOWN.out HS.out hex5 hdb hz5 hsl5; have hsg5 := HSB38.out.ex hex5 hg3d; have hs1 : w5.cell? ⟨g3, 1, none⟩ = some (.slice AX xs.length cx) := hsg5.facts.2.1; have ha1 := fun ob => (hsg5.alloc ob).facts.2.1)
      | (refine step_app RGen.ok _ ?_ (.tmp 46) (.tmp 49) 53 ?_ b2 50 (.agg #[.int .i64 0, .string ⟨#[]⟩, .slice none 0 0]) 48 Tryz.underlying53 info_gen rfl (by decide) S' (.slice AX xs.length cx) xs ?_ hc1 ⟨w5.heap.size, 0, none⟩ 1 1 [(kk, t.data.toList, nn)] ?_ rfl ?_ (fun b hb => (hc3 b hb).2) ?_ ?_ ?_ ?_; rfl; rfl; rfl; rfl; exact hc2; (simp; omega); (simp [maxLen]; omega); (rw [World.size_alloc]; omega); intro v7 w7 hown7 hgr7 hb7 hat7; obtain ⟨A8, c8, hv8⟩ := (hown7.sl RGen.ok).shape; obtain ⟨n8, hn8⟩ : ∃ n8, (xs ++ [((kk, t.data.toList, nn) : Gen)]).length = n8 := ⟨_, rfl⟩; rw [hn8] at hv8; subst hv8; have HN8 := hide hn8; clear hn8; have hg7 : SB g3 _ _ w7 := (hgr7.block g3 (by have := hsg5.lt; rw [World.size_alloc]; omega) (fun e => by have := HV2.out g3 e.symm; omega)).trans (hsg5.alloc _); have q1 := hg7.facts.1; have q2 := hg7.facts.2.1; have q3 := hg7.facts.2.2.1; have q4 := hg7.facts.2.2.2; have hsz7 := hb7.size; rw [World.size_alloc] at hsz7))
     all_goals
      have ho6 : ∀ k, (Value.slice A8 n8 c8).ownBlock = some k → b2 ≤ k ∧ k < w7.heap.size ∧ k ≠ g3 := fun k hk => by
       refine ⟨(hown7.lt k hk).1, (hown7.lt k hk).2, ?_⟩
       rcases hat7 with h | h
       ·have := HV2.out k (by rw [← h]; exact hk); omega
       ·rw [hk, World.size_alloc] at h
        simp only [Option.some.injEq] at h
        omega
      have hkx := hown7.slO RGen.ok
      have hkp := HOP8.out.slO RGen.ok
      have hz5' := hex5.size
      have HSM9 := hide (show SmallGs (ps ++ (xs ++ [(kk, t.data.toList, nn)])) from SmallGs.two (fun y hy => (HGS.out.2.2.1 y hy).small) (SmallGs.two (fun y hy => (HGS.out.2.2.2 y hy).small) (fun y hy => by rw [List.mem_singleton.1 hy]; exact HQ.out.small)))
      have HAF := hide (show AfterS w d g3 g5 (.slice B1 p.length d1) (.slice B2 x.length d2) ps (xs ++ [(kk, t.data.toList, nn)]) AP A8 cp c8 (w7.setCell ⟨g3, 1, none⟩ (.slice A8 n8 c8)) from {
       base := (((Ex.below HB8.out HB8.out.size hwd hex5).alloc (by omega) _).trans (hb7.mono (by omega))).setCell (p := ⟨g3, 1, none⟩) (by show w.heap.size ≤ g3; omega) _
       wd := hwd
       dk := ((hdk5.alloc _).keep (hb7.mono (by omega))).set_ h3d _
       d3 := by omega
       d5 := by omega
       s3 := by rw [HN8.out]; exact hg7.store1 _
       s5 := (((HSB8.out.ex hex5 (by omega)).alloc _).base hb7 (by omega)).other (k := g3) (by omega) _
       kp := (Sl.ok RGen.ok).mono hkp (fun k hk => by
        have hk2 : b1 ≤ k ∧ k < b2 := by
         rcases hk with hk | hk
         ·exact HS1.out k hk
         ·exact ⟨(HOP8.out.lt k hk).1, HV1.out k hk⟩
        exact (Below.heap_setCell _ ⟨g3, 1, none⟩ _ k (by show k ≠ g3; omega)).trans ((hb7.block k hk2.2).trans ((Below.heap_alloc _ _ k (by omega)).trans (hex5.at_ (by omega) (by omega))))) (fun k hk => by
        rw [Nd, World.size_setCell]
        have hk2 : b1 ≤ k ∧ k < b2 := by
         rcases hk with hk | hk
         ·exact HS1.out k hk
         ·exact ⟨(HOP8.out.lt k hk).1, HV1.out k hk⟩
        omega)
       kx := by
        rw [HN8.out]
        exact (Sl.ok RGen.ok).mono hkx (fun k hk => Below.heap_setCell _ ⟨g3, 1, none⟩ _ k (by
        show k ≠ g3
        rcases hk with hk | hk
        ·rcases (hc3 k hk).1 with h | h
         ·have := (HS2.out k h).2; omega
         ·omega
        ·exact (ho6 k hk).2.2)) (fun k hk => by
        rw [Nd, World.size_setCell]
        rcases hk with hk | hk
        ·have h3 := hc3 k hk
         rw [World.size_alloc] at h3
         rcases h3.1 with h | h
         ·have := (HS2.out k h).1; omega
         ·omega
        ·have := ho6 k hk; omega)
       sm := HSM9.out })
      obtain ⟨XL, hXL⟩ : ∃ L, L = xs ++ [(kk, t.data.toList, nn)] := ⟨_, rfl⟩
      rw [← hXL] at HAF
      obtain ⟨ws, hws⟩ : ∃ W, W = w7.setCell ⟨g3, 1, none⟩ (.slice A8 n8 c8) := ⟨_, rfl⟩
      rw [← hws] at HAF ⊢
      clear hws hkp hkx ho6 hz5' hown7 hgr7 hb7 hat7 hg7 hsz7 q1 q2 q3 q4 hc1 hc2 hc3 hs1 ha1 hsg5 HOWN HDK HS hgs hdb hg3d HSBD y0d E0 HQ hex5 hz5 hsl5 hdk5 HN8 HOP8 HOX8 HSB38 HSB8 HGB8 HS18 HS28 HB8 HDK8 HS1 HS2 HV1 HV2 HGS HW5 HG3 hXL HSM9 hb18 hb28 h3w8 hd8 t0 hwd hdw3 hl1 hl2 hdb1 h3d hb23 hwb1 hb12 hb26 h5d h6d
      have hdws : d < ws.heap.size := HAF.out.dk.lt
      have h3ws : g3 < ws.heap.size := HAF.out.s3.lt
      have h5ws : g5 < ws.heap.size := HAF.out.s5.lt
      obtain ⟨g11, hg11⟩ : ∃ g, g = ws.heap.size := ⟨_, rfl⟩
      obtain ⟨wt, hwt⟩ : ∃ W, W = ws.alloc (.cells #[.slice none 0 0, .slice none 0 0] 60) := ⟨_, rfl⟩
      have hsb11 : SB g11 (.slice none 0 0) (.slice none 0 0) wt := by rw [hwt, hg11]; exact heap_alloc_new ws _
      have HEXT := hide (show Ex d ws wt by rw [hwt]; exact (Ex.refl d ws).alloc _)
      have HDKT := hide (show DeckAt wt d by rw [hwt]; exact HAF.out.dk.alloc _)
      have hzt : wt.heap.size = ws.heap.size + 1 := by rw [hwt]; simp
      obtain ⟨base, hbase⟩ : ∃ b, b = ws.heap.size + 1 := ⟨_, rfl⟩
      have hbt : base ≤ wt.heap.size := by omega
      have hg3b : g11 < base := by omega
      have hdb : d < base := by omega
      have hg3d : g11 ≠ d := by omega
      have hd11 : d < g11 := by omega
      have hwb : ws.heap.size ≤ base := by omega
      have hws11 : ws.heap.size ≤ g11 := by omega
      have HSB11 := hide hsb11
      have HWT := hide hwt
      have HG11 := hide hg11
      clear hsb11 hwt hg11 hzt hbase
      try go_upto_region 11 with (fail)
      rw [← HWT.out]
      try rw [← HG11.out]
      go_wp2_with fail
      go_loopw [12] (fun i wr => ∃ (k : Nat) (m : List Gen) (v : Value) (S : Nat → Prop), k ≤ N ∧ m.length = k ∧ i = .int .i64 k ∧ Ex d ws wr ∧ DeckAt wr d ∧ base ≤ wr.heap.size ∧ SB g11 v (.slice none 0 0) wr ∧ Own RGen 3 50 wr base S v m ∧ (∀ j, S j → base ≤ j ∧ j < wr.heap.size) ∧ ∀ g ∈ m, GoodBase g) (fun i _ => N - (intOf i).toNat)
      case atStart => exact ⟨0, [], _, No, by omega, rfl, rfl, HEXT.out, HDKT.out, hbt, HSB11.out, Own.nil _ _ _ _ _ _, fun j h => h.elim, fun x hx => by cases hx⟩
      case round =>
       obtain ⟨k, m, v, S, hk, hmk, rfl, hex, hdk, hgs, hsb, hown, hS, hgm⟩ := hrel
       obtain ⟨A9, c9, hv9⟩ := (hown.sl RGen.ok).shape
       subst hv9
       clear HSB11 HEXT HDKT
       have HSB := hide hsb
       have HMK := hide hmk
       have HEX := hide hex
       have HDK := hide hdk
       have HOWN := hide hown
       have HS := hide hS
       have HGM := hide hgm
       have hm19 : m.length ≤ 19 := by omega
       clear hmk hex hdk hown hS hgm hsb
       by_cases hlt : k < N
       ·have hlt' : (k : Int) < n % 20 := by omega
        have HSBD := hide (show SB g11 _ _ wr.drew from HSB.out)
        have y0d : wr.drew.cell? ⟨g11, 0, none⟩ = some (.slice A9 m.length c9) := HSBD.out.facts.1
        have E0 := hide (Base_any d wr.drew (HDK.out.drewN 1))
        go_upto_region 14 with (fail)
        go_region_law (first
         | (go_simp; go_at_call 48; refine E0.out.mono ?_; rintro e w5 ⟨g, t, A5, c5, hq, ht, rfl, hsl5, hdk5, hex5⟩; obtain ⟨kk, tt, nn⟩ := g; obtain rfl : t.data.toList = tt := ht; have HQ := hide hq; have hex5 : Ex d wr w5 := (Ex.refl d wr).drew.trans hex5; have hz5 := hex5.size; obtain ⟨S', hc1, hc2, hc3⟩ := gen_step_ex2 (k := kk) (t := t) HOWN.out HS.out hex5 hdb hz5 hsl5; have hsg5 := HSB.out.ex hex5 hg3d; have hs1 : w5.cell? ⟨g11, 0, none⟩ = some (.slice A9 m.length c9) := hsg5.facts.1; have ha1 := fun ob => (hsg5.alloc ob).facts.1)
         | (refine step_app RGen.ok _ ?_ (.tmp 61) (.tmp 64) 53 ?_ base 50 (.agg #[.int .i64 0, .string ⟨#[]⟩, .slice none 0 0]) 48 Tryz.underlying53 info_gen rfl (by decide) S' (.slice A9 m.length c9) m ?_ hc1 ⟨w5.heap.size, 0, none⟩ 1 1 [(kk, t.data.toList, nn)] ?_ rfl ?_ (fun b hb => (hc3 b hb).2) ?_ ?_ ?_ ?_; rfl; rfl; rfl; rfl; exact hc2; (simp; omega); (simp [maxLen]; omega); (rw [World.size_alloc]; omega); intro v7 w7 hown7 hgr7 hb7 hat7; obtain ⟨A8, c8, hv8⟩ := (hown7.sl RGen.ok).shape; obtain ⟨n8, hn8⟩ : ∃ n8, (m ++ [((kk, t.data.toList, nn) : Gen)]).length = n8 := ⟨_, rfl⟩; rw [hn8] at hv8; subst hv8; have HN8 := hide hn8; clear hn8; have hg7 : SB g11 _ _ w7 := (hsg5.alloc _).base hb7 hg3b; have q1 := hg7.facts.1; have q2 := hg7.facts.2.1; have q3 := hg7.facts.2.2.1; have q4 := hg7.facts.2.2.2; have hsz7 := hb7.size; rw [World.size_alloc] at hsz7))
        all_goals
         have hS5 : ∀ j, S' j → base ≤ j ∧ j < w5.heap.size + 1 := fun j hj => by
          have h1 := hc3 j hj
          rw [World.size_alloc] at h1
          rcases h1.1 with h | h
          ·exact ⟨(HS.out j h).1, h1.2⟩
          ·exact ⟨by omega, h1.2⟩
         have hexf : Ex d ws w7 := ((HEX.out.trans hex5).alloc _).then_base (hb7.mono hwb)
         have hdkf : DeckAt w7 d := (hdk5.alloc _).keep (hb7.mono (by omega))
         have HEXF := hide hexf
         have HDKF := hide hdkf
         go_wp2_with fail
         go_roundw
         case rel => exact ⟨k + 1, m ++ [(kk, t.data.toList, nn)], _, S', by omega, by simp [HMK.out], by go_num, HEXF.out.setNew hws11 _, HDKF.out.set_ hd11 _, by simp; omega, hg7.store0 _, hown7.other RGen.ok (fun j hj => (hS5 j hj).1) hg3b _, fun j hj => ⟨(hS5 j hj).1, by have := (hS5 j hj).2; simp; omega⟩, fun g hg => by
          rcases List.mem_append.1 hg with hg | hg
          ·exact HGM.out g hg
          ·simp at hg; subst hg; exact HQ.out⟩
         case measure => simp [intOf]; omega
       ·have hlt' : ¬ (k : Int) < n % 20 := by omega
        have hslm := (Sl.ok RGen.ok).mono (HOWN.out.sl RGen.ok) (fun _ _ => rfl) (S' := Lt wr.heap.size) (fun j hj => by rcases hj with hj | hj; exact (HS.out j hj).2; exact hj.2)
        have hsgm : SmallGs (m ++ []) := by rw [List.append_nil]; exact fun g hg => (HGM.out g hg).small
        have hbw : Below w.heap.size w wr := Ex.below HAF.out.base HAF.out.base.size HAF.out.wd HEX.out
        have h3w := HAF.out.s3.ex HEX.out HAF.out.d3
        have h5w := HAF.out.s5.ex HEX.out HAF.out.d5
        obtain ⟨x30, x31, -, -⟩ := h3w.facts
        obtain ⟨x50, x51, -, -⟩ := h5w.facts
        obtain ⟨x110, x111, -, -⟩ := HSB.out.facts
        have hkp : Sl RGen 3 wr (Lt wr.heap.size) ps [.slice AP ps.length cp] := (Sl.ok RGen.ok).mono ((Sl.ok RGen.ok).ex HAF.out.kp HEX.out) (fun _ _ => rfl) (fun k hk => hk.1)
        have hkx : Sl RGen 3 wr (Lt wr.heap.size) XL [.slice A8 XL.length c8] := (Sl.ok RGen.ok).mono ((Sl.ok RGen.ok).ex HAF.out.kx HEX.out) (fun _ _ => rfl) (fun k hk => hk.1)
        have ht3 := T3S.new (T := 60) ((Sl.ok RGen.ok).below K2.out hbw) ((Sl.ok RGen.ok).below K3.out hbw) hkp hkx hslm (Sl.nil RGen 3 wr (Lt wr.heap.size)) HSR.out HAF.out.sm hsgm
        obtain ⟨wL, hwL⟩ : ∃ W, W = wr.alloc (.cells #[.slice B1 p.length d1, .slice B2 x.length d2, .slice AP ps.length cp, .slice A8 XL.length c8, .slice A9 m.length c9, .slice none 0 0] 60) := ⟨_, rfl⟩
        have ht3' : T3S wr.heap.size wL := by rw [hwL]; exact ht3
        have hbL : Below w.heap.size w wL := by rw [hwL]; exact hbw.alloc hbw.size _
        obtain ⟨gL, hgL⟩ : ∃ g, g = wr.heap.size := ⟨_, rfl⟩
        have hgLL : gL < wL.heap.size := by rw [hgL, hwL]; simp
        rw [← hgL] at ht3'
        have HT3 := hide ht3'
        have HBL := hide hbL
        have HWL := hide hwL
        have HGL := hide hgL
        clear hslm hsgm hbw h3w h5w hkp hkx ht3 ht3' hbL hwL hgL HSB HMK HEX HDK HOWN HS HGM hgs hk hlt hm19 HAF
        go_wp2_with fail
        rw [← HWL.out]
        try rw [← HGL.out]
        clear x30 x31 x50 x51 x110 x111
        go_loopw [72] (fun i wi => ∃ j : Nat, j ≤ 3 ∧ i = .int .i64 j ∧ Below wL.heap.size wL wi) (fun i _ => 3 - (intOf i).toNat)
        case atStart => exact ⟨0, by omega, rfl, Below.refl _ _⟩
        case round =>
         obtain ⟨j, hj, rfl, hb⟩ := hrel
         obtain ⟨wi, rfl⟩ : ∃ wi : World, wi = wr := ⟨_, rfl⟩
         have HB := hide (HBL.out.trans (hb.mono HBL.out.size))
         by_cases hlt : j < 3
         ·obtain ⟨pp, xx, Ap, Ax, cp, cx, hz0, hz1, hsp, hsx, hsm⟩ := HT3.out j hlt
          have f0 := (hb.cell (p := ⟨gL, j * 2, none⟩) hgLL).trans hz0
          have f1 := (hb.cell (p := ⟨gL, j * 2 + 1, none⟩) hgLL).trans hz1
          obtain ⟨wx, hwx⟩ : ∃ W, W = wi.alloc (.cells #[.slice Ap pp.length cp, .slice Ax xx.length cx] 60) := ⟨_, rfl⟩
          obtain ⟨e0, e1⟩ := two_cells hwx
          have hbx : Below wi.heap.size wi wx := by rw [hwx]; exact (Below.refl _ _).alloc (Nat.le_refl _) _
          have HBX := hide (HB.out.trans (hbx.mono HB.out.size))
          have HBXL := hide (hb.trans (hbx.mono hb.size))
          have KP := hide ((Sl.ok RGen.ok).below hsp (hb.trans (hbx.mono hb.size)))
          have KX := hide ((Sl.ok RGen.ok).below hsx (hb.trans (hbx.mono hb.size)))
          have HSM := hide hsm
          obtain ⟨gx, hgx⟩ : ∃ g, wi.heap.size = g := ⟨_, rfl⟩
          rw [hgx] at e0 e1
          clear hz0 hz1 hsp hsx hsm hb hbx
          go_upto_region 18 with fail
          rw [← hwx]
          try rw [hgx]
          clear hwx hgx f0 f1
          obtain ⟨o, ho⟩ : ∃ o, encS (pp, xx) = o := ⟨_, rfl⟩
          have EN := hide (fun W (hb : Below wx.heap.size wx W) => SEncode_any pp xx Ap Ax cp cx HSM.out W (HMX.out.below (HBX.out.trans (hb.mono HBX.out.size))) ((Sl.ok RGen.ok).below KP.out hb) ((Sl.ok RGen.ok).below KX.out hb))
          have REN := hide (fun W (hb : Below wx.heap.size wx W) => rSEncode_any pp xx Ap Ax cp cx HSM.out W (HMX.out.below (HBX.out.trans (hb.mono HBX.out.size))) ((Sl.ok RGen.ok).below KP.out hb) ((Sl.ok RGen.ok).below KX.out hb))
          rw [ho] at EN REN
          obtain ⟨E, hE⟩ : ∃ E : ByteArray, (⟨o.1.toArray⟩ : ByteArray) = E := ⟨_, rfl⟩
          obtain ⟨ke, hke⟩ : ∃ k, o.2 = k := ⟨_, rfl⟩
          have HWR := hide (show wrapR o = .tuple #[.string E, .int .i64 ke] by rw [wrapR, hE, hke])
          obtain ⟨q, hq⟩ : ∃ q, chkS (pp, xx) = q := ⟨_, rfl⟩
          have C1 := hide (fun W (h0 : W.cell? ⟨gx, 0, none⟩ = some (.slice Ap pp.length cp)) (h1 : W.cell? ⟨gx, 1, none⟩ = some (.slice Ax xx.length cx)) (hb : Below wx.heap.size wx W) =>
           (SCheck_any pp xx Ap Ax cp cx HSM.out.med q hq W (HMX.out.below (HBX.out.trans (hb.mono HBX.out.size))) ((Sl.ok RGen.ok).below KP.out hb) ((Sl.ok RGen.ok).below KX.out hb)).mono (R' := fun e W' => e = .returned (.int .i64 q) ∧ W'.cell? ⟨gx, 0, none⟩ = some (.slice Ap pp.length cp) ∧ W'.cell? ⟨gx, 1, none⟩ = some (.slice Ax xx.length cx) ∧ Below wx.heap.size wx W')
           fun _ _ ⟨he, hb9⟩ => ⟨he, cell_grows hb9 _ _ h0, cell_grows hb9 _ _ h1, hb.trans (hb9.mono hb.size)⟩)
          have C2 := hide (fun W (h0 : W.cell? ⟨gx, 0, none⟩ = some (.slice Ap pp.length cp)) (h1 : W.cell? ⟨gx, 1, none⟩ = some (.slice Ax xx.length cx)) (hb : Below wx.heap.size wx W) =>
           (rSCheck_any pp xx Ap Ax cp cx HSM.out.med q hq W (HMX.out.below (HBX.out.trans (hb.mono HBX.out.size))) ((Sl.ok RGen.ok).below KP.out hb) ((Sl.ok RGen.ok).below KX.out hb)).mono (R' := fun e W' => e = .returned (.int .i64 q) ∧ W'.cell? ⟨gx, 0, none⟩ = some (.slice Ap pp.length cp) ∧ W'.cell? ⟨gx, 1, none⟩ = some (.slice Ax xx.length cx) ∧ Below wx.heap.size wx W')
           fun _ _ ⟨he, hb9⟩ => ⟨he, cell_grows hb9 _ _ h0, cell_grows hb9 _ _ h1, hb.trans (hb9.mono hb.size)⟩)
          have s1 : (q != q) = false := by simp
          have s2 : (E.toList != E.toList) = false := by simp
          have s3 : (ke != ke) = false := by simp
          clear ho hE hke hq
          go_wp2_with fail
          refine (EN.out _ (Below.refl _ _)).mono ?_
          rintro e w5 ⟨rfl, hb5⟩
          rw [HWR.out]
          have HB5 := hide hb5
          have z0 := cell_grows hb5 _ _ e0
          have z1 := cell_grows hb5 _ _ e1
          clear hb5 e0 e1
          go_wp2_with fail
          refine (REN.out _ HB5.out).mono ?_
          rintro e w6 ⟨rfl, hb6⟩
          rw [HWR.out]
          have f3 := HB5.out.trans (hb6.mono HB5.out.size)
          have f0 := cell_grows hb6 _ _ z0
          have f1 := cell_grows hb6 _ _ z1
          have f0d : w6.drew.cell? ⟨gx, 0, none⟩ = some (.slice Ap pp.length cp) := f0
          have f1d : w6.drew.cell? ⟨gx, 1, none⟩ = some (.slice Ax xx.length cx) := f1
          have f3d := f3.drew
          clear hb6 z0 z1
          go_upto_region 20 with fail
          go_region_held3 (fun W => W.cell? ⟨gx, 0, none⟩ = some (.slice Ap pp.length cp) ∧ W.cell? ⟨gx, 1, none⟩ = some (.slice Ax xx.length cx) ∧ Below wx.heap.size wx W)
           (first | exact ⟨hs1, hs2, hs3⟩ | exact ⟨f0, f1, f3⟩ | exact ⟨f0d, f1d, f3d⟩)
           (first
            | (go_at_call 50; (first | (with_reducible refine (C1.out _ hs1 hs2 hs3).mono ?_) | (with_reducible refine (C1.out _ f0d f1d f3d).mono ?_) | fail); rintro e wn ⟨rfl, hs1, hs2, hs3⟩)
            | (go_at_call 51; (first | (with_reducible refine (C2.out _ hs1 hs2 hs3).mono ?_) | (with_reducible refine (C2.out _ f0d f1d f3d).mono ?_) | fail); rintro e wn ⟨rfl, hs1, hs2, hs3⟩)
            | fail)
          all_goals
           have HBN := hide (HBXL.out.trans (hs3.mono HBXL.out.size))
           go_wp2_with fail
           go_roundw
           case rel => exact ⟨j + 1, by omega, by go_num, HBN.out⟩
           case measure => simp [intOf]; omega
         ·clear hb
          go_wp2_with fail
          refine (sawake_any _ (HMX.out.below HB.out)).mono ?_
          rintro e wz ⟨rfl, hbz⟩
          go_wp2_with fail
          go_ret
          exact ⟨rfl, HB.out.trans (hbz.mono HB.out.size)⟩
    ·have t1 : ((v : Int) == 1) = false := by rw [beq_eq_false_iff_ne]; omega
     clear hv0 hv1
     have hkx := HOX8.out.slO RGen.ok
     have hkp := HOP8.out.slO RGen.ok
     have HSM9 := hide (show SmallGs (ps ++ xs) from SmallGs.two (fun y hy => (HGS.out.2.2.1 y hy).small) (fun y hy => (HGS.out.2.2.2 y hy).small))
     have HAF := hide (show AfterS w d g3 g5 (.slice B1 p.length d1) (.slice B2 x.length d2) ps xs AP AX cp cx w8 from {
      base := HB8.out
      wd := hwd
      dk := HDK8.out
      d3 := by omega
      d5 := by omega
      s3 := HSB38.out
      s5 := HSB8.out
      kp := (Sl.ok RGen.ok).mono hkp (fun _ _ => rfl) (fun k hk => by
       rw [Nd]
       rcases hk with hk | hk
       ·have := HS18.out k hk; omega
       ·have := HOP8.out.lt k hk; omega)
      kx := (Sl.ok RGen.ok).mono hkx (fun _ _ => rfl) (fun k hk => by
       rw [Nd]
       rcases hk with hk | hk
       ·have := HS28.out k hk; omega
       ·have := HOX8.out.lt k hk; omega)
      sm := HSM9.out })
     obtain ⟨ws, rfl⟩ : ∃ W : World, W = w8 := ⟨_, rfl⟩
     clear hkp hkx HOP8 HOX8 HSB38 HSB8 HGB8 HS18 HS28 HB8 HDK8 HS1 HS2 HV1 HV2 HGS HW5 HG3 HSM9 hb18 hb28 h3w8 hd8 hwd hdw3 hl1 hl2 hz5 hdb1 h3d hb23 hwb1 hb12 hb26 h5d h6d
     have hdws : d < ws.heap.size := HAF.out.dk.lt
     have h3ws : g3 < ws.heap.size := HAF.out.s3.lt
     have h5ws : g5 < ws.heap.size := HAF.out.s5.lt
     obtain ⟨g11, hg11⟩ : ∃ g, g = ws.heap.size := ⟨_, rfl⟩
     obtain ⟨wt, hwt⟩ : ∃ W, W = ws.alloc (.cells #[.slice none 0 0, .slice none 0 0] 60) := ⟨_, rfl⟩
     have hsb11 : SB g11 (.slice none 0 0) (.slice none 0 0) wt := by rw [hwt, hg11]; exact heap_alloc_new ws _
     have HEXT := hide (show Ex d ws wt by rw [hwt]; exact (Ex.refl d ws).alloc _)
     have HDKT := hide (show DeckAt wt d by rw [hwt]; exact HAF.out.dk.alloc _)
     have hzt : wt.heap.size = ws.heap.size + 1 := by rw [hwt]; simp
     obtain ⟨base, hbase⟩ : ∃ b, b = ws.heap.size + 1 := ⟨_, rfl⟩
     have hbt : base ≤ wt.heap.size := by omega
     have hg3b : g11 < base := by omega
     have hdb : d < base := by omega
     have hg3d : g11 ≠ d := by omega
     have hd11 : d < g11 := by omega
     have hwb : ws.heap.size ≤ base := by omega
     have hws11 : ws.heap.size ≤ g11 := by omega
     have HSB11 := hide hsb11
     have HWT := hide hwt
     have HG11 := hide hg11
     clear hsb11 hwt hg11 hzt hbase
     try go_upto_region 11 with (fail)
     rw [← HWT.out]
     try rw [← HG11.out]
     go_wp2_with fail
     go_loopw [12] (fun i wr => ∃ (k : Nat) (m : List Gen) (v : Value) (S : Nat → Prop), k ≤ N ∧ m.length = k ∧ i = .int .i64 k ∧ Ex d ws wr ∧ DeckAt wr d ∧ base ≤ wr.heap.size ∧ SB g11 v (.slice none 0 0) wr ∧ Own RGen 3 50 wr base S v m ∧ (∀ j, S j → base ≤ j ∧ j < wr.heap.size) ∧ ∀ g ∈ m, GoodBase g) (fun i _ => N - (intOf i).toNat)
     case atStart => exact ⟨0, [], _, No, by omega, rfl, rfl, HEXT.out, HDKT.out, hbt, HSB11.out, Own.nil _ _ _ _ _ _, fun j h => h.elim, fun x hx => by cases hx⟩
     case round =>
      obtain ⟨k, m, v, S, hk, hmk, rfl, hex, hdk, hgs, hsb, hown, hS, hgm⟩ := hrel
      obtain ⟨A9, c9, hv9⟩ := (hown.sl RGen.ok).shape
      subst hv9
      clear HSB11 HEXT HDKT
      have HSB := hide hsb
      have HMK := hide hmk
      have HEX := hide hex
      have HDK := hide hdk
      have HOWN := hide hown
      have HS := hide hS
      have HGM := hide hgm
      have hm19 : m.length ≤ 19 := by omega
      clear hmk hex hdk hown hS hgm hsb
      by_cases hlt : k < N
      ·have hlt' : (k : Int) < n % 20 := by omega
       have HSBD := hide (show SB g11 _ _ wr.drew from HSB.out)
       have y0d : wr.drew.cell? ⟨g11, 0, none⟩ = some (.slice A9 m.length c9) := HSBD.out.facts.1
       have E0 := hide (Base_any d wr.drew (HDK.out.drewN 1))
       go_upto_region 14 with (fail)
       go_region_law (first
        | (go_simp; go_at_call 48; refine E0.out.mono ?_; rintro e w5 ⟨g, t, A5, c5, hq, ht, rfl, hsl5, hdk5, hex5⟩; obtain ⟨kk, tt, nn⟩ := g; obtain rfl : t.data.toList = tt := ht; have HQ := hide hq; have hex5 : Ex d wr w5 := (Ex.refl d wr).drew.trans hex5; have hz5 := hex5.size; obtain ⟨S', hc1, hc2, hc3⟩ := gen_step_ex2 (k := kk) (t := t) HOWN.out HS.out hex5 hdb hz5 hsl5; have hsg5 := HSB.out.ex hex5 hg3d; have hs1 : w5.cell? ⟨g11, 0, none⟩ = some (.slice A9 m.length c9) := hsg5.facts.1; have ha1 := fun ob => (hsg5.alloc ob).facts.1)
        | (refine step_app RGen.ok _ ?_ (.tmp 61) (.tmp 64) 53 ?_ base 50 (.agg #[.int .i64 0, .string ⟨#[]⟩, .slice none 0 0]) 48 Tryz.underlying53 info_gen rfl (by decide) S' (.slice A9 m.length c9) m ?_ hc1 ⟨w5.heap.size, 0, none⟩ 1 1 [(kk, t.data.toList, nn)] ?_ rfl ?_ (fun b hb => (hc3 b hb).2) ?_ ?_ ?_ ?_; rfl; rfl; rfl; rfl; exact hc2; (simp; omega); (simp [maxLen]; omega); (rw [World.size_alloc]; omega); intro v7 w7 hown7 hgr7 hb7 hat7; obtain ⟨A8, c8, hv8⟩ := (hown7.sl RGen.ok).shape; obtain ⟨n8, hn8⟩ : ∃ n8, (m ++ [((kk, t.data.toList, nn) : Gen)]).length = n8 := ⟨_, rfl⟩; rw [hn8] at hv8; subst hv8; have HN8 := hide hn8; clear hn8; have hg7 : SB g11 _ _ w7 := (hsg5.alloc _).base hb7 hg3b; have q1 := hg7.facts.1; have q2 := hg7.facts.2.1; have q3 := hg7.facts.2.2.1; have q4 := hg7.facts.2.2.2; have hsz7 := hb7.size; rw [World.size_alloc] at hsz7))
       all_goals
        have hS5 : ∀ j, S' j → base ≤ j ∧ j < w5.heap.size + 1 := fun j hj => by
         have h1 := hc3 j hj
         rw [World.size_alloc] at h1
         rcases h1.1 with h | h
         ·exact ⟨(HS.out j h).1, h1.2⟩
         ·exact ⟨by omega, h1.2⟩
        have hexf : Ex d ws w7 := ((HEX.out.trans hex5).alloc _).then_base (hb7.mono hwb)
        have hdkf : DeckAt w7 d := (hdk5.alloc _).keep (hb7.mono (by omega))
        have HEXF := hide hexf
        have HDKF := hide hdkf
        go_wp2_with fail
        go_roundw
        case rel => exact ⟨k + 1, m ++ [(kk, t.data.toList, nn)], _, S', by omega, by simp [HMK.out], by go_num, HEXF.out.setNew hws11 _, HDKF.out.set_ hd11 _, by simp; omega, hg7.store0 _, hown7.other RGen.ok (fun j hj => (hS5 j hj).1) hg3b _, fun j hj => ⟨(hS5 j hj).1, by have := (hS5 j hj).2; simp; omega⟩, fun g hg => by
         rcases List.mem_append.1 hg with hg | hg
         ·exact HGM.out g hg
         ·simp at hg; subst hg; exact HQ.out⟩
        case measure => simp [intOf]; omega
      ·have hlt' : ¬ (k : Int) < n % 20 := by omega
       have hslm := (Sl.ok RGen.ok).mono (HOWN.out.sl RGen.ok) (fun _ _ => rfl) (S' := Lt wr.heap.size) (fun j hj => by rcases hj with hj | hj; exact (HS.out j hj).2; exact hj.2)
       have hsgm : SmallGs (m ++ []) := by rw [List.append_nil]; exact fun g hg => (HGM.out g hg).small
       have hbw : Below w.heap.size w wr := Ex.below HAF.out.base HAF.out.base.size HAF.out.wd HEX.out
       have h3w := HAF.out.s3.ex HEX.out HAF.out.d3
       have h5w := HAF.out.s5.ex HEX.out HAF.out.d5
       obtain ⟨x30, x31, -, -⟩ := h3w.facts
       obtain ⟨x50, x51, -, -⟩ := h5w.facts
       obtain ⟨x110, x111, -, -⟩ := HSB.out.facts
       have hkp : Sl RGen 3 wr (Lt wr.heap.size) ps [.slice AP ps.length cp] := (Sl.ok RGen.ok).mono ((Sl.ok RGen.ok).ex HAF.out.kp HEX.out) (fun _ _ => rfl) (fun k hk => hk.1)
       have hkx : Sl RGen 3 wr (Lt wr.heap.size) xs [.slice AX xs.length cx] := (Sl.ok RGen.ok).mono ((Sl.ok RGen.ok).ex HAF.out.kx HEX.out) (fun _ _ => rfl) (fun k hk => hk.1)
       have ht3 := T3S.new (T := 60) ((Sl.ok RGen.ok).below K2.out hbw) ((Sl.ok RGen.ok).below K3.out hbw) hkp hkx hslm (Sl.nil RGen 3 wr (Lt wr.heap.size)) HSR.out HAF.out.sm hsgm
       obtain ⟨wL, hwL⟩ : ∃ W, W = wr.alloc (.cells #[.slice B1 p.length d1, .slice B2 x.length d2, .slice AP ps.length cp, .slice AX xs.length cx, .slice A9 m.length c9, .slice none 0 0] 60) := ⟨_, rfl⟩
       have ht3' : T3S wr.heap.size wL := by rw [hwL]; exact ht3
       have hbL : Below w.heap.size w wL := by rw [hwL]; exact hbw.alloc hbw.size _
       obtain ⟨gL, hgL⟩ : ∃ g, g = wr.heap.size := ⟨_, rfl⟩
       have hgLL : gL < wL.heap.size := by rw [hgL, hwL]; simp
       rw [← hgL] at ht3'
       have HT3 := hide ht3'
       have HBL := hide hbL
       have HWL := hide hwL
       have HGL := hide hgL
       clear hslm hsgm hbw h3w h5w hkp hkx ht3 ht3' hbL hwL hgL HSB HMK HEX HDK HOWN HS HGM hgs hk hlt hm19 HAF
       go_wp2_with fail
       rw [← HWL.out]
       try rw [← HGL.out]
       clear x30 x31 x50 x51 x110 x111
       go_loopw [72] (fun i wi => ∃ j : Nat, j ≤ 3 ∧ i = .int .i64 j ∧ Below wL.heap.size wL wi) (fun i _ => 3 - (intOf i).toNat)
       case atStart => exact ⟨0, by omega, rfl, Below.refl _ _⟩
       case round =>
        obtain ⟨j, hj, rfl, hb⟩ := hrel
        obtain ⟨wi, rfl⟩ : ∃ wi : World, wi = wr := ⟨_, rfl⟩
        have HB := hide (HBL.out.trans (hb.mono HBL.out.size))
        by_cases hlt : j < 3
        ·obtain ⟨pp, xx, Ap, Ax, cp, cx, hz0, hz1, hsp, hsx, hsm⟩ := HT3.out j hlt
         have f0 := (hb.cell (p := ⟨gL, j * 2, none⟩) hgLL).trans hz0
         have f1 := (hb.cell (p := ⟨gL, j * 2 + 1, none⟩) hgLL).trans hz1
         obtain ⟨wx, hwx⟩ : ∃ W, W = wi.alloc (.cells #[.slice Ap pp.length cp, .slice Ax xx.length cx] 60) := ⟨_, rfl⟩
         obtain ⟨e0, e1⟩ := two_cells hwx
         have hbx : Below wi.heap.size wi wx := by rw [hwx]; exact (Below.refl _ _).alloc (Nat.le_refl _) _
         have HBX := hide (HB.out.trans (hbx.mono HB.out.size))
         have HBXL := hide (hb.trans (hbx.mono hb.size))
         have KP := hide ((Sl.ok RGen.ok).below hsp (hb.trans (hbx.mono hb.size)))
         have KX := hide ((Sl.ok RGen.ok).below hsx (hb.trans (hbx.mono hb.size)))
         have HSM := hide hsm
         obtain ⟨gx, hgx⟩ : ∃ g, wi.heap.size = g := ⟨_, rfl⟩
         rw [hgx] at e0 e1
         clear hz0 hz1 hsp hsx hsm hb hbx
         go_upto_region 18 with fail
         rw [← hwx]
         try rw [hgx]
         clear hwx hgx f0 f1
         obtain ⟨o, ho⟩ : ∃ o, encS (pp, xx) = o := ⟨_, rfl⟩
         have EN := hide (fun W (hb : Below wx.heap.size wx W) => SEncode_any pp xx Ap Ax cp cx HSM.out W (HMX.out.below (HBX.out.trans (hb.mono HBX.out.size))) ((Sl.ok RGen.ok).below KP.out hb) ((Sl.ok RGen.ok).below KX.out hb))
         have REN := hide (fun W (hb : Below wx.heap.size wx W) => rSEncode_any pp xx Ap Ax cp cx HSM.out W (HMX.out.below (HBX.out.trans (hb.mono HBX.out.size))) ((Sl.ok RGen.ok).below KP.out hb) ((Sl.ok RGen.ok).below KX.out hb))
         rw [ho] at EN REN
         obtain ⟨E, hE⟩ : ∃ E : ByteArray, (⟨o.1.toArray⟩ : ByteArray) = E := ⟨_, rfl⟩
         obtain ⟨ke, hke⟩ : ∃ k, o.2 = k := ⟨_, rfl⟩
         have HWR := hide (show wrapR o = .tuple #[.string E, .int .i64 ke] by rw [wrapR, hE, hke])
         obtain ⟨q, hq⟩ : ∃ q, chkS (pp, xx) = q := ⟨_, rfl⟩
         have C1 := hide (fun W (h0 : W.cell? ⟨gx, 0, none⟩ = some (.slice Ap pp.length cp)) (h1 : W.cell? ⟨gx, 1, none⟩ = some (.slice Ax xx.length cx)) (hb : Below wx.heap.size wx W) =>
          (SCheck_any pp xx Ap Ax cp cx HSM.out.med q hq W (HMX.out.below (HBX.out.trans (hb.mono HBX.out.size))) ((Sl.ok RGen.ok).below KP.out hb) ((Sl.ok RGen.ok).below KX.out hb)).mono (R' := fun e W' => e = .returned (.int .i64 q) ∧ W'.cell? ⟨gx, 0, none⟩ = some (.slice Ap pp.length cp) ∧ W'.cell? ⟨gx, 1, none⟩ = some (.slice Ax xx.length cx) ∧ Below wx.heap.size wx W')
          fun _ _ ⟨he, hb9⟩ => ⟨he, cell_grows hb9 _ _ h0, cell_grows hb9 _ _ h1, hb.trans (hb9.mono hb.size)⟩)
         have C2 := hide (fun W (h0 : W.cell? ⟨gx, 0, none⟩ = some (.slice Ap pp.length cp)) (h1 : W.cell? ⟨gx, 1, none⟩ = some (.slice Ax xx.length cx)) (hb : Below wx.heap.size wx W) =>
          (rSCheck_any pp xx Ap Ax cp cx HSM.out.med q hq W (HMX.out.below (HBX.out.trans (hb.mono HBX.out.size))) ((Sl.ok RGen.ok).below KP.out hb) ((Sl.ok RGen.ok).below KX.out hb)).mono (R' := fun e W' => e = .returned (.int .i64 q) ∧ W'.cell? ⟨gx, 0, none⟩ = some (.slice Ap pp.length cp) ∧ W'.cell? ⟨gx, 1, none⟩ = some (.slice Ax xx.length cx) ∧ Below wx.heap.size wx W')
          fun _ _ ⟨he, hb9⟩ => ⟨he, cell_grows hb9 _ _ h0, cell_grows hb9 _ _ h1, hb.trans (hb9.mono hb.size)⟩)
         have s1 : (q != q) = false := by simp
         have s2 : (E.toList != E.toList) = false := by simp
         have s3 : (ke != ke) = false := by simp
         clear ho hE hke hq
         go_wp2_with fail
         refine (EN.out _ (Below.refl _ _)).mono ?_
         rintro e w5 ⟨rfl, hb5⟩
         rw [HWR.out]
         have HB5 := hide hb5
         have z0 := cell_grows hb5 _ _ e0
         have z1 := cell_grows hb5 _ _ e1
         clear hb5 e0 e1
         go_wp2_with fail
         refine (REN.out _ HB5.out).mono ?_
         rintro e w6 ⟨rfl, hb6⟩
         rw [HWR.out]
         have f3 := HB5.out.trans (hb6.mono HB5.out.size)
         have f0 := cell_grows hb6 _ _ z0
         have f1 := cell_grows hb6 _ _ z1
         have f0d : w6.drew.cell? ⟨gx, 0, none⟩ = some (.slice Ap pp.length cp) := f0
         have f1d : w6.drew.cell? ⟨gx, 1, none⟩ = some (.slice Ax xx.length cx) := f1
         have f3d := f3.drew
         clear hb6 z0 z1
         go_upto_region 20 with fail
         go_region_held3 (fun W => W.cell? ⟨gx, 0, none⟩ = some (.slice Ap pp.length cp) ∧ W.cell? ⟨gx, 1, none⟩ = some (.slice Ax xx.length cx) ∧ Below wx.heap.size wx W)
          (first | exact ⟨hs1, hs2, hs3⟩ | exact ⟨f0, f1, f3⟩ | exact ⟨f0d, f1d, f3d⟩)
          (first
           | (go_at_call 50; (first | (with_reducible refine (C1.out _ hs1 hs2 hs3).mono ?_) | (with_reducible refine (C1.out _ f0d f1d f3d).mono ?_) | fail); rintro e wn ⟨rfl, hs1, hs2, hs3⟩)
           | (go_at_call 51; (first | (with_reducible refine (C2.out _ hs1 hs2 hs3).mono ?_) | (with_reducible refine (C2.out _ f0d f1d f3d).mono ?_) | fail); rintro e wn ⟨rfl, hs1, hs2, hs3⟩)
           | fail)
         all_goals
          have HBN := hide (HBXL.out.trans (hs3.mono HBXL.out.size))
          go_wp2_with fail
          go_roundw
          case rel => exact ⟨j + 1, by omega, by go_num, HBN.out⟩
          case measure => simp [intOf]; omega
        ·clear hb
         go_wp2_with fail
         refine (sawake_any _ (HMX.out.below HB.out)).mono ?_
         rintro e wz ⟨rfl, hbz⟩
         go_wp2_with fail
         go_ret
         exact ⟨rfl, HB.out.trans (hbz.mono HB.out.size)⟩
end Go.Proofs.YtinmfgbdadchjaaGreatDoor
