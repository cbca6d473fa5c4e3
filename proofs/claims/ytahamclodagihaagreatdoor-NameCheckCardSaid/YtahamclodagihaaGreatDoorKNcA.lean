/- The law NameCheck, its walk. -/
import Derived.Test.YtahamclodagihaaGreatDoorKNmwA
import Derived.Test.YtahamclodagihaaGreatDoorKGNenI
import Derived.Test.YtahamclodagihaaGreatDoorKGNamD
import Derived.Test.YtahamclodagihaaGreatDoorKCrA
import Derived.Test.YtahamclodagihaaGreatDoorKGLibI
import Derived.Deep.RegionHeld3
import Derived.Deep.DeepCutAuto
namespace Go.Proofs.YtahamclodagihaaGreatDoor
open Go.RowKit
def FitJ (j : Nat) (u : Value) : Prop := (j = 0 ∧ ∃ s : ByteArray, s.size ≤ 131072 ∧ u = .string s) ∨ (j = 1 ∧ ∃ m : Int, u = .int .i64 m) ∨ (j = 2 ∧ ∃ s : ByteArray, s.size ≤ 131072 ∧ u = .string s)
theorem mem_set_or {α : Type} {l : List α} {i : Nat} {x y : α} (h : y ∈ l.set i x) : y ∈ l ∨ y = x := List.mem_or_eq_of_mem_set h
theorem Rws.store {w : World} {S : Nat → Prop} {lo : Nat} {l : Name} {xs : List Value} (h : Rws w S lo l xs) {i g n c : Nat} (hx : xs[i]? = some (.slice (some ⟨g, 0, none⟩) n c)) {k : Nat} (hk : k < n) {j : Nat} {u : Value} (hu : FitJ j u) (hs : SmallN l) :
  ∃ l', Rws (w.setCell ⟨g, k * 3 + j, none⟩ u) S lo l' xs ∧ SmallN l' := by
 have hi : i < l.length := by rw [← h.len]; exact (List.getElem?_eq_some_iff.1 hx).1
 obtain ⟨g', c', h1, -, -, -, -, -, -, h8⟩ := h.at_ i hi
 rw [hx] at h1
 obtain ⟨e1, e2, -⟩ : (some (⟨g, 0, none⟩ : Addr) = some ⟨g', 0, none⟩) ∧ n = l[i].length ∧ c = c' := by simpa using h1
 cases e1
 have hk' : k < l[i].length := by omega
 have hsa : SmallA l[i][k] := hs l[i] (List.getElem_mem hi) _ (List.getElem_mem hk')
 have hsm : ∀ a', SmallA a' → SmallN (l.set i (l[i].set k a')) := fun a' ha' r hr a ha => by
  rcases mem_set_or hr with hr | rfl
  ·exact hs r hr a ha
  ·rcases mem_set_or ha with ha | rfl
   ·exact hs l[i] (List.getElem_mem hi) a ha
   ·exact ha'
 rcases hu with ⟨rfl, s, hss, rfl⟩ | ⟨rfl, m, rfl⟩ | ⟨rfl, s, hss, rfl⟩
 ·exact ⟨_, h8 k hk' 0 _ (s.data.toList, l[i][k].2.1, l[i][k].2.2) (by omega) (fun j' hj' => by
   match j', hj' with
   | 0, hj' => exact absurd rfl hj'
   | _ + 1, _ => rfl) rfl, hsm _ ⟨by show s.data.toList.length ≤ 131072; rw [size_string]; exact hss, hsa.2⟩⟩
 ·exact ⟨_, h8 k hk' 1 _ (l[i][k].1, m, l[i][k].2.2) (by omega) (fun j' hj' => by
   match j', hj' with
   | 0, _ => rfl
   | 1, hj' => exact absurd rfl hj'
   | _ + 2, _ => rfl) rfl, hsm _ hsa⟩
 ·exact ⟨_, h8 k hk' 2 _ (l[i][k].1, l[i][k].2.1, s.data.toList) (by omega) (fun j' hj' => by
   match j', hj' with
   | 0, _ => rfl
   | 1, _ => rfl
   | 2, hj' => exact absurd rfl hj'
   | _ + 3, _ => rfl) rfl, hsm _ ⟨hsa.1, by show s.data.toList.length ≤ 131072; rw [size_string]; exact hss⟩⟩
theorem Own.val {e : TypeId} {w w' : World} {base : Nat} {S : Nat → Prop} {v : Value} {xs : List Value} (h : Own RVal 1 e w base S v xs) (hg : ∀ g, v.ownBlock = some g → w'.heap[g]? = w.heap[g]?) : Own RVal 1 e w' base S v xs := by
 have h2 : Own RVal 1 e w base No v xs := by
  obtain ⟨xs1, h1, _, h3⟩ := h
  exact ⟨xs1, h1, fun _ _ h => h, h3⟩
 obtain ⟨xs2, h5, -, h6⟩ := Own.keep RVal.ok h2 hg (fun k hk => hk.elim) (fun _ hk => hk) (fun _ _ h => h)
 exact ⟨xs2, h5, by obtain ⟨_, _, h7, _⟩ := h; exact h7, h6⟩
structure CkN (w : World) (gR gn : Nat) (rv nv : Value) (W : World) : Prop where
 below : Below w.heap.size w W
 raw : NB gR rv W
 nm : NB gn nv W
 sl : ∃ (m : Name) (A : Option Addr) (c : Nat), nv = .slice A m.length c ∧ Sl RRdn 1 W (Lt W.heap.size) m [.slice A m.length c] ∧ SmallN m
structure CkM (w : World) (gR gn base : Nat) (S : Nat → Prop) (rv nv : Value) (xs : List Value) (W : World) : Prop where
 below : Below w.heap.size w W
 raw : NB gR rv W
 nm : NB gn nv W
 own : Own RVal 1 33 W base S nv xs
 hS : ∀ j, S j → base ≤ j ∧ j < gn
 rows : ∃ m, Rws W S base m xs ∧ SmallN m
 hb : gR < base
 hw : w.heap.size ≤ gR
theorem CkM.fin {w : World} {gR gn base : Nat} {S : Nat → Prop} {rv nv : Value} {xs : List Value} {W : World} (h : CkM w gR gn base S rv nv xs W) : CkN w gR gn rv nv W := by
 obtain ⟨m, hm, hs⟩ := h.rows
 have hsl := (Sl.ok RRdn.ok).mono (hm.sl h.own) (S' := Lt W.heap.size) (fun _ _ => rfl) (fun k hk => by
  rcases hk with hk | hk
  ·have := (h.hS k hk).2; have := h.nm.lt; show k < _; omega
  ·exact hk.2)
 obtain ⟨A, c, hv⟩ := hsl.shape
 exact ⟨h.below, h.raw, h.nm, m, A, c, hv, hv ▸ hsl, hs⟩
theorem CkM.ex {w : World} {gR gn base d : Nat} {S : Nat → Prop} {rv nv : Value} {xs : List Value} {W W' : World} (h : CkM w gR gn base S rv nv xs W) (hx : Ex d W W') (hd : gR < d) (hdb : d < base) (hbn : base < gn) : CkM w gR gn base S rv nv xs W' := by
 obtain ⟨m, hm, hs⟩ := h.rows
 have hnl := h.nm.lt
 exact ⟨Ex.below h.below h.below.size (by have := h.hw; omega) hx, h.raw.ex hx (by omega), h.nm.ex hx (by omega), h.own.val (fun g hg => hx.at_ (h.own.lt g hg).2 (by have := (h.own.lt g hg).1; omega)), h.hS,
  ⟨m, hm.mono (fun k hk _ => hx.at_ (by have := (h.hS k hk).2; omega) (by have := (h.hS k hk).1; omega)) (fun _ hk => hk), hs⟩, h.hb, h.hw⟩
theorem CkM.below' {w : World} {gR gn base : Nat} {S : Nat → Prop} {rv nv : Value} {xs : List Value} {W W' : World} (h : CkM w gR gn base S rv nv xs W) (hx : Below W.heap.size W W') : CkM w gR gn base S rv nv xs W' := by
 obtain ⟨m, hm, hs⟩ := h.rows
 have hnl := h.nm.lt
 exact ⟨h.below.trans (hx.mono h.below.size), h.raw.below hx, h.nm.below hx, h.own.val (fun g hg => hx.block g (h.own.lt g hg).2), h.hS,
  ⟨m, hm.mono (fun k hk _ => hx.block k (by have := (h.hS k hk).2; omega)) (fun _ hk => hk), hs⟩, h.hb, h.hw⟩
theorem CkM.store {w : World} {gR gn base : Nat} {S : Nat → Prop} {rv nv : Value} {xs : List Value} {W : World} (h : CkM w gR gn base S rv nv xs W) {i g n c : Nat} (hx : xs[i]? = some (.slice (some ⟨g, 0, none⟩) n c)) (hg : S g) {k : Nat} (hk : k < n) {j : Nat} {u : Value} (hu : FitJ j u) :
  CkM w gR gn base S rv nv xs (W.setCell ⟨g, k * 3 + j, none⟩ u) := by
 obtain ⟨m, hm, hs⟩ := h.rows
 obtain ⟨m', hm', hs'⟩ := hm.store hx hk hu hs
 have h1 := h.hS g hg
 have h2 := h.hb
 have h3 := h.hw
 exact ⟨h.below.setCell (p := ⟨g, k * 3 + j, none⟩) (by show _ ≤ g; omega) _, h.raw.other (by omega), h.nm.other (by omega),
  h.own.val (fun g9 hg9 => Below.heap_setCell W ⟨g, k * 3 + j, none⟩ u g9 (fun e => by
   obtain ⟨_, _, h7, _⟩ := h.own
   have e' : g9 = g := e
   exact h7 g9 hg9 (e' ▸ hg))), h.hS, ⟨m', hm', hs'⟩, h.hb, h.hw⟩
theorem CkM.cells {w : World} {gR gn base : Nat} {S : Nat → Prop} {rv nv : Value} {xs : List Value} {W : World} (h : CkM w gR gn base S rv nv xs W) {i g n c : Nat} (hx : xs[i]? = some (.slice (some ⟨g, 0, none⟩) n c)) {k : Nat} (hk : k < n) :
    ∃ (s0 s2 : ByteArray) (k1 : Int), W.cell? ⟨g, k * 3, none⟩ = some (.string s0) ∧ W.cell? ⟨g, k * 3 + 1, none⟩ = some (.int .i64 k1) ∧ W.cell? ⟨g, k * 3 + 2, none⟩ = some (.string s2) ∧
      W.frozen? ⟨g, k * 3, none⟩ = false ∧ W.frozen? ⟨g, k * 3 + 1, none⟩ = false ∧ W.frozen? ⟨g, k * 3 + 2, none⟩ = false := by
  obtain ⟨m, hm, -⟩ := h.rows
  have hi : i < m.length := by rw [← hm.len]; exact (List.getElem?_eq_some_iff.1 hx).1
  obtain ⟨g', c', h1, -, -, -, -, h6, h7, -⟩ := hm.at_ i hi
  rw [hx] at h1
  obtain ⟨e1, e2, -⟩ : (some (⟨g, 0, none⟩ : Addr) = some ⟨g', 0, none⟩) ∧ n = m[i].length ∧ c = c' := by simpa using h1
  cases e1
  have hk' : k < m[i].length := by omega
  exact ⟨_, _, _, h7 k hk' 0 _ rfl, h7 k hk' 1 _ rfl, h7 k hk' 2 _ rfl, h6 _, h6 _, h6 _⟩
structure PkJ (d gn gO : Nat) (N c : Nat) (xs : List Value) (w4 : World) (dd : Nat → Bool) (val : Nat → Value) (W : World) : Prop where
 ex : Ex d w4 W
 dk : DeckAt W d
 v41 : dd 0 = true → val 41 = .pointer (some ⟨gn, 0, none⟩)
 v42 : dd 1 = true → val 42 = .slice (some ⟨gO, 0, none⟩) N c
 v43 : dd 2 = true → val 43 = .pointer (some ⟨d, 0, none⟩)
 v44 : dd 3 = true → val 44 = .pointer (some ⟨gn, 0, none⟩)
 v45 : dd 4 = true → val 45 = .slice (some ⟨gO, 0, none⟩) N c
 v46 : dd 5 = true → val 46 = .int .i64 (N : Int)
 v47 : dd 6 = true → ∃ j : Nat, j < N ∧ val 47 = .int .i64 (j : Int)
 v48 : dd 7 = true → ∃ j : Nat, j < N ∧ val 48 = .pointer (some ⟨gO, j, none⟩)
 v49 : dd 8 = true → ∃ j : Nat, j < N ∧ xs[j]? = some (val 49)
 v9 : dd 9 = true → ∃ j : Nat, j < N ∧ xs[j]? = some (val 9)
set_option maxRecDepth 100000 in
set_option maxHeartbeats 16000000 in
theorem NameCheck_any (a : Name) (Aa : Option Addr) (ca : Nat) (l : List Int) (A0 : Option Addr) (n0 c0 : Nat) (ty va : ByteArray) (kd : Int) (w : World) (hmx : Mx w) (ha : Sl RRdn 1 w (Lt w.heap.size) a [.slice Aa a.length ca]) (h : Sl RInt 1 w (Lt w.heap.size) l [.slice A0 n0 c0]) :
    Calls Tryz.prog 3 #[.agg #[.slice Aa a.length ca], .slice A0 n0 c0, .agg #[.string ty, .int .i64 kd, .string va]] w fun e w' => e = .returned (.bool true) ∧ Below w.heap.size w w' := by
  have HMX := hide hmx
  have K := hide h
  have KA := hide ha
  obtain ⟨qa, hqa⟩ : ∃ q, shortN a = q := ⟨_, rfl⟩
  have QA := hide hqa
  obtain ⟨w0, hw0⟩ : ∃ w0, w0 = (w.alloc (.cells #[.slice Aa a.length ca] 24)).alloc (.cells #[.string ty, .int .i64 kd, .string va] 27) := ⟨_, rfl⟩
  have hA0 : NB w.heap.size (.slice Aa a.length ca) w0 := by
    unfold NB
    rw [hw0, Below.heap_alloc _ _ _ (by simp)]
    exact heap_alloc_new w _
  have hB0 : AtB (w.heap.size + 1) ty kd va w0 := by
    unfold AtB
    rw [hw0, show w.heap.size + 1 = (w.alloc (.cells #[.slice Aa a.length ca] 24)).heap.size by simp]
    exact heap_alloc_new _ _
  have hb0 : Below w.heap.size w w0 := by rw [hw0]; exact ((Below.refl _ _).alloc (Nat.le_refl _) _).alloc (by simp) _
  obtain ⟨gR, hgR⟩ : ∃ g, w.heap.size = g := ⟨_, rfl⟩
  obtain ⟨gA, hgA⟩ : ∃ g, gR + 1 = g := ⟨_, rfl⟩
  have HGR := hide hgR
  have HGA := hide hgA
  rw [hgR] at hA0
  rw [hgR, hgA] at hB0
  have HB0 := hide hb0
  have NA := hide hA0
  have TA := hide hB0
  have hnba := hA0.facts.1
  have HW0 := hide hw0
  clear hmx h ha hqa hA0 hB0 hb0 hw0 hgR hgA
  go_enter Tryz.func3, Tryz.ntmps3
  go_upto_region 1 with (fail)
  rw [← HW0.out, HGR.out, HGA.out]
  go_wp2_with fail
  refine (Short_any a Aa ca _ ((Sl.ok RRdn.ok).below KA.out HB0.out) qa QA.out).mono ?_
  rintro e w1 ⟨rfl, hb1⟩
  have HB1 := hide (HB0.out.trans (hb1.mono HB0.out.size))
  have NA := hide (NA.out.below hb1)
  have TA := hide (TA.out.below hb1)
  have HC1 := hide hb1
  clear hb1 hnba
  cases qa
  · go_wp2_with fail
    refine (nawake_any _ (HMX.out.below HB1.out)).mono ?_
    rintro e wz ⟨rfl, hbz⟩
    go_wp2_with fail
    go_ret
    exact ⟨rfl, (HB1.out).trans (hbz.mono (HB1.out).size)⟩
  · obtain ⟨t0, t1, t2, -, -, -⟩ := TA.out.facts
    by_cases hts : 200 < ty.size
    · have hts1 : (200 : Int) < (ty.size : Int) := by omega
      clear hts
      go_wp2_with fail
      refine (nawake_any _ (HMX.out.below HB1.out)).mono ?_
      rintro e wz ⟨rfl, hbz⟩
      go_wp2_with fail
      go_ret
      exact ⟨rfl, (HB1.out).trans (hbz.mono (HB1.out).size)⟩
    · have hts1 : ¬ (200 : Int) < (ty.size : Int) := by omega
      by_cases hvs : 200 < va.size
      · have hvs1 : (200 : Int) < (va.size : Int) := by omega
        clear hts hvs
        go_wp2_with fail
        refine (nawake_any _ (HMX.out.below HB1.out)).mono ?_
        rintro e wz ⟨rfl, hbz⟩
        go_wp2_with fail
        go_ret
        exact ⟨rfl, (HB1.out).trans (hbz.mono (HB1.out).size)⟩
      · have hvs1 : ¬ (200 : Int) < (va.size : Int) := by omega
        have HTS := hide (show ty.size ≤ 131072 by omega)
        have HVS := hide (show va.size ≤ 131072 by omega)
        clear hts hvs
        have SMA := hide (shortN_small QA.out)
        go_wp2_with fail
        refine (New_any l A0 n0 c0 _ ((Sl.ok RInt.ok).below K.out HB1.out)).mono ?_
        rintro e w3 ⟨rfl, hdk3, hb3⟩
        obtain ⟨d, hd⟩ : ∃ d, d = w1.heap.size := ⟨_, rfl⟩
        have hgAd : gA < d := by rw [hd]; exact TA.out.lt
        have hRA : gR < gA := by have := HGA.out; omega
        rw [← hd] at hdk3 ⊢
        have HB3 := hide (HB1.out.trans (hb3.mono HB1.out.size))
        have HDK3 := hide hdk3
        have NA3 := hide (NA.out.below hb3)
        have TA3 := hide (TA.out.below hb3)
        have HWD := hide (show w.heap.size ≤ d by have := HB1.out.size; omega)
        clear hd hb3 hdk3 t0 t1 t2 hts1 hvs1
        go_wp2_with fail
        refine (NameW_any d _ HDK3.out).mono ?_
        rintro e w4 ⟨nn, vn, xs, S, base, hgn, rfl, hwb, hown4, hrow4, hS4, hdk4, hex4⟩
        obtain ⟨A1, c1, hvn⟩ := (hown4.sl RVal.ok).shape
        subst hvn
        obtain ⟨N, hN⟩ : ∃ n, xs.length = n := ⟨_, rfl⟩
        have HXN := hide (show N = nn.length by rw [← hN, hrow4.len])
        rw [hN] at hown4 ⊢
        have HXL := hide hN
        obtain ⟨gn, hgnn⟩ : ∃ g, w4.heap.size = g := ⟨_, rfl⟩
        obtain ⟨w5, hw5⟩ : ∃ W, W = w4.alloc (.cells #[.slice A1 N c1] 24) := ⟨_, rfl⟩
        have hdb : d < base := by have := HDK3.out.lt; omega
        have hm4 : CkM w gR gn base S (.slice Aa a.length ca) (.slice A1 N c1) xs w5 := by
          have hb45 : Below w4.heap.size w4 w5 := by rw [hw5]; exact (Below.refl _ _).alloc (Nat.le_refl _) _
          have hb4 : Below w.heap.size w w4 := Ex.below HB3.out HB3.out.size HWD.out hex4
          refine ⟨hb4.trans (hb45.mono hb4.size), (NA3.out.ex hex4 (by omega)).below hb45, by rw [hw5, ← hgnn]; exact heap_alloc_new w4 _, hown4.val (fun g hg => hb45.block g (hown4.lt g hg).2), fun j hj => ⟨(hS4 j hj).1, by have := (hS4 j hj).2; omega⟩,
            ⟨nn, hrow4.mono (fun k hk _ => hb45.block k (hS4 k hk).2) (fun _ hk => hk), fun r hr b hb => ?_⟩, by omega, by have := HGR.out; omega⟩
          obtain ⟨q1, q2⟩ := (hgn.bnd.2 r hr).2 b hb
          exact ⟨by omega, by omega⟩
        have HM5 := hide hm4
        have HROW := hide (show ∃ W, Rws W S base nn xs from ⟨w4, hrow4⟩)
        have HDK5 := hide (show DeckAt w5 d by rw [hw5]; exact hdk4.alloc _)
        have TA5 := hide (show AtB gA ty kd va w5 by rw [hw5]; exact (TA3.out.ex hex4 (by omega)).below ((Below.refl _ _).alloc (Nat.le_refl _) _))
        have HGN := hide hgn
        clear hN hgn hwb hown4 hrow4 hS4 hdk4 hex4 hm4
        go_upto_region 5 with (fail)
        rw [← hw5]
        try rw [hgnn]
        clear hw5 hgnn
        obtain ⟨f0, -⟩ := HM5.out.nm.facts
        go_upto_if 40 with (fail)
        go_cut [9] (fun s9 wx => CkN w gR gn (.slice Aa a.length ca) (.slice A1 N c1) wx)
        case first =>
          by_cases hN0 : 0 < N
          · have hNi : (0 : Int) < (N : Int) := by omega
            obtain ⟨gO, cO, -, hv1, -⟩ := HM5.out.own.at_ (i := 0) (by rw [HXL.out]; exact hN0)
            rw [HXL.out] at hv1
            obtain ⟨rfl, rfl⟩ : A1 = some ⟨gO, 0, none⟩ ∧ c1 = cO := by simpa using hv1
            have hbgn : base < gn := by
              obtain ⟨m0, hm0, -⟩ := HM5.out.rows
              obtain ⟨g00, c00, -, -, -, hS00, -⟩ := hm0.at_ 0 (by rw [← hm0.len, HXL.out]; exact hN0)
              have := HM5.out.hS g00 hS00
              omega
            have HME := hide (show ∀ W, Ex d w5 W → CkM w gR gn base S (.slice Aa a.length ca) (.slice (some ⟨gO, 0, none⟩) N c1) xs W from fun W hx => HM5.out.ex hx (by omega) hdb hbgn)
            have HCO := hide (show ∀ W j, Ex d w5 W → j < N → ∃ x, xs[j]? = some x ∧ W.cell? ⟨gO, j, none⟩ = some x from fun W j hx hj => by
              obtain ⟨g9, c9, ys, hv9, -, -, -, -, hr9, hc9, -⟩ := (HME.out W hx).own.at_ (i := j) (by rw [HXL.out]; exact hj)
              rw [HXL.out] at hv9
              obtain ⟨e9, -⟩ : gO = g9 ∧ c1 = c9 := by simpa using hv9
              subst e9
              obtain ⟨hy, -⟩ := hr9
              subst hy
              have := hc9 0 _ rfl
              rw [Nat.mul_one, Nat.add_zero] at this
              exact ⟨_, List.getElem?_eq_getElem _, this⟩)
            have HTA := hide (show ∀ W, Ex d w5 W → AtB gA ty kd va W from fun W hx => TA5.out.ex hx (by omega))
            have hN3 : N ≤ 3 := by rw [HXN.out]; exact HGN.out.1
            clear f0 hv1
            go_upto_region 6 with (fail)
            rw [show decide (0 < N) = true from decide_eq_true hN0]
            have HN0 := hide hN0
            clear hNi hN0
            refine region_inv [41, 42, 43, 44, 45, 46, 47, 48, 49, 9] (PkJ d gn gO N c1 xs w5) (by kernel_rfl) (by kernel_rfl) (fun val => ⟨(Ex.refl d w5).drew, HDK5.out, nofun, nofun, nofun, nofun, nofun, nofun, nofun, nofun, nofun, nofun⟩) ⟨?_, ?_, ?_, ?_, ?_, ?_, ?_, ?_, ?_, ?_, trivial⟩ ?_
            · refine ⟨fun s hs => by cases hs <;> decide, ?_⟩
              rintro dd val W hJ hd hdep K hK
              rw [if_pos (by rfl)]
              dsimp only [putF, List.foldl, Act.put] at hK ⊢
              simp only [List.setIfInBounds_toArray, List.set_cons_zero, List.set_cons_succ] at hK ⊢
              go_simp
              exact hK.out _ _ { hJ with v41 := fun _ => rfl }
            · refine ⟨fun s hs => by cases hs <;> decide, ?_⟩
              rintro dd val W hJ hd hdep K hK
              rw [if_pos (by rfl)]
              dsimp only [putF, List.foldl, Act.put] at hK ⊢
              simp only [List.setIfInBounds_toArray, List.set_cons_zero, List.set_cons_succ] at hK ⊢
              have e41 := hJ.v41 (hdep ⟨0, .data⟩ (by simp) rfl)
              simp only [e41] at hK ⊢
              have q0 := (HME.out W hJ.ex).nm.facts.1
              go_simp
              exact hK.out _ _ { hJ with v42 := fun _ => rfl }
            · refine ⟨fun s hs => by cases hs <;> decide, ?_⟩
              rintro dd val W hJ hd hdep K hK
              rw [if_pos (by rfl)]
              dsimp only [putF, List.foldl, Act.put] at hK ⊢
              simp only [List.setIfInBounds_toArray, List.set_cons_zero, List.set_cons_succ] at hK ⊢
              go_simp
              exact hK.out _ _ { hJ with v43 := fun _ => rfl }
            · refine ⟨fun s hs => by cases hs <;> decide, ?_⟩
              rintro dd val W hJ hd hdep K hK
              rw [if_pos (by rfl)]
              dsimp only [putF, List.foldl, Act.put] at hK ⊢
              simp only [List.setIfInBounds_toArray, List.set_cons_zero, List.set_cons_succ] at hK ⊢
              go_simp
              exact hK.out _ _ { hJ with v44 := fun _ => rfl }
            · refine ⟨fun s hs => by cases hs <;> decide, ?_⟩
              rintro dd val W hJ hd hdep K hK
              rw [if_pos (by rfl)]
              dsimp only [putF, List.foldl, Act.put] at hK ⊢
              simp only [List.setIfInBounds_toArray, List.set_cons_zero, List.set_cons_succ] at hK ⊢
              have e44 := hJ.v44 (hdep ⟨3, .data⟩ (by simp) rfl)
              simp only [e44] at hK ⊢
              have q0 := (HME.out W hJ.ex).nm.facts.1
              go_simp
              exact hK.out _ _ { hJ with v45 := fun _ => rfl }
            · refine ⟨fun s hs => by cases hs <;> decide, ?_⟩
              rintro dd val W hJ hd hdep K hK
              rw [if_pos (by rfl)]
              dsimp only [putF, List.foldl, Act.put] at hK ⊢
              simp only [List.setIfInBounds_toArray, List.set_cons_zero, List.set_cons_succ] at hK ⊢
              have e45 := hJ.v45 (hdep ⟨4, .data⟩ (by simp) rfl)
              simp only [e45] at hK ⊢
              go_simp
              exact hK.out _ _ { hJ with v46 := fun _ => rfl }
            · refine ⟨fun s hs => by cases hs <;> decide, ?_⟩
              rintro dd val W hJ hd hdep K hK
              rw [if_pos (by rfl)]
              dsimp only [putF, List.foldl, Act.put] at hK ⊢
              simp only [List.setIfInBounds_toArray, List.set_cons_zero, List.set_cons_succ] at hK ⊢
              have e43 := hJ.v43 (hdep ⟨2, .data⟩ (by simp) rfl)
              have e46 := hJ.v46 (hdep ⟨5, .data⟩ (by simp) rfl)
              simp only [e43, e46] at hK ⊢
              go_simp
              refine (Next_any d N HN0.out (by omega) W hJ.dk).mono ?_
              rintro e w7 ⟨v, hv, rfl, hdk7, hex7⟩
              go_wp2_with fail
              exact hK.out _ _ { hJ with ex := hJ.ex.trans hex7, dk := hdk7, v47 := fun _ => ⟨v, hv, rfl⟩ }
            · refine ⟨fun s hs => by cases hs <;> decide, ?_⟩
              rintro dd val W hJ hd hdep K hK
              rw [if_pos (by rfl)]
              dsimp only [putF, List.foldl, Act.put] at hK ⊢
              simp only [List.setIfInBounds_toArray, List.set_cons_zero, List.set_cons_succ] at hK ⊢
              obtain ⟨j, hj, e47⟩ := hJ.v47 (hdep ⟨6, .data⟩ (by simp) rfl)
              have e42 := hJ.v42 (hdep ⟨1, .data⟩ (by simp) rfl)
              simp only [e42, e47] at hK ⊢
              have hj1 : (j : Int) < (N : Int) := by omega
              have hj0 : (0 : Int) ≤ (j : Int) := by omega
              go_simp
              exact hK.out _ _ { hJ with v48 := fun _ => ⟨j, hj, by first | rfl | simp⟩ }
            · refine ⟨fun s hs => by cases hs <;> decide, ?_⟩
              rintro dd val W hJ hd hdep K hK
              rw [if_pos (by rfl)]
              dsimp only [putF, List.foldl, Act.put] at hK ⊢
              simp only [List.setIfInBounds_toArray, List.set_cons_zero, List.set_cons_succ] at hK ⊢
              obtain ⟨j, hj, e48⟩ := hJ.v48 (hdep ⟨7, .data⟩ (by simp) rfl)
              obtain ⟨x, hx, q0⟩ := HCO.out W j hJ.ex hj
              simp only [e48] at hK ⊢
              go_simp
              exact hK.out _ _ { hJ with v49 := fun _ => ⟨j, hj, hx⟩ }
            · refine ⟨fun s hs => by cases hs <;> decide, ?_⟩
              rintro dd val W hJ hd hdep K hK
              rw [if_pos (by rfl)]
              dsimp only [putF, List.foldl, Act.put] at hK ⊢
              simp only [List.setIfInBounds_toArray, List.set_cons_zero, List.set_cons_succ] at hK ⊢
              obtain ⟨j, hj, e49⟩ := hJ.v49 (hdep ⟨8, .data⟩ (by simp) rfl)
              go_simp
              exact hK.out _ _ { hJ with v9 := fun _ => ⟨j, hj, e49⟩ }
            · intro dd val W hall hJ
              obtain ⟨i, hi, hxi⟩ := hJ.v9 (hall 9 (by decide))
              have hexW := hJ.ex
              have hdkW := hJ.dk
              obtain ⟨x9, hx9⟩ : ∃ v, val 9 = v := ⟨_, rfl⟩
              dsimp only [putF, List.foldl, Act.put]
              simp only [List.setIfInBounds_toArray, List.set_cons_zero, List.set_cons_succ, hx9]
              rw [hx9] at hxi
              obtain ⟨W9, hW9⟩ := HROW.out
              have hil : i < nn.length := by rw [← HXN.out]; exact hi
              obtain ⟨g, c, hx9b, hrc, hcm, hSg, -⟩ := hW9.at_ i hil
              obtain ⟨r, hr⟩ : ∃ r, nn[i].length = r := ⟨_, rfl⟩
              have hgr := HGN.out.2 nn[i] (List.getElem_mem hil)
              have hr1 : 1 ≤ r := by have := hgr.pos; omega
              have hr2 : r ≤ 2 := by
                rcases hgr with ⟨a9, -, e⟩ | ⟨a9, -, b9, -, e, -⟩ <;> (rw [e] at hr; simp at hr; omega)
              rw [hr] at hx9b hrc
              have HXI := hide hx9b
              rw [hx9b] at hxi
              obtain rfl := (Option.some.inj hxi).symm
              have HEX := hide hexW
              have HDK := hide hdkW
              have HSG := hide hSg
              clear hW9 hgr hr hxi hx9 hexW hdkW hJ hx9b hSg
              go_wp2_with fail
              refine (Next_any d r (by omega) (by omega) _ HDK.out).mono ?_
              rintro e w7 ⟨k, hk, rfl, hdk7, hex7⟩
              have HEX7 := hide (HEX.out.trans hex7)
              have HDK7 := hide hdk7
              clear hdk7 hex7
              go_wp2_with fail
              refine (Next_any d 5 (by omega) (by omega) _ HDK7.out).mono ?_
              rintro e w8 ⟨v, hv, rfl, hdk8, hex8⟩
              have HEX8 := hide (HEX7.out.trans hex8)
              have HDK8 := hide hdk8
              have HM8 := hide (HME.out w8 HEX8.out)
              have HTA8 := hide (HTA.out w8 HEX8.out)
              have hk1 : (k : Int) < (r : Int) := by omega
              have hk0 : (0 : Int) ≤ (k : Int) := by omega
              clear hdk8 hex8
              match v, hv with
              | 0, _ =>
                obtain ⟨s0, s2, k1, d0, d1, d2, z0, z1, z2⟩ := HM8.out.cells HXI.out hk
                obtain ⟨t0, t1, t2, -, -, -⟩ := HTA8.out.facts
                go_wp2_with fail
                go_meet
                exact (((HM8.out.store HXI.out HSG.out hk (.inl ⟨rfl, ty, HTS.out, rfl⟩)).store HXI.out HSG.out hk (.inr (.inl ⟨rfl, kd, rfl⟩))).store HXI.out HSG.out hk (.inr (.inr ⟨rfl, va, HVS.out, rfl⟩))).fin
              | 1, _ =>
                obtain ⟨s0, s2, k1, d0, d1, d2, z0, z1, z2⟩ := HM8.out.cells HXI.out hk
                obtain ⟨t0, t1, t2, -, -, -⟩ := HTA8.out.facts
                go_wp2_with fail
                go_meet
                exact (HM8.out.store HXI.out HSG.out hk (.inr (.inr ⟨rfl, va, HVS.out, rfl⟩))).fin
              | 2, _ =>
                obtain ⟨w9, hw9⟩ : ∃ W, W = w8.alloc (.cells #[.int .i64 12, .int .i64 22, .int .i64 19, .int .i64 4] 3) := ⟨_, rfl⟩
                have hdk9 : DeckAt w9 d := by rw [hw9]; exact HDK8.out.alloc _
                have HM9 := hide (show CkM w gR gn base S (.slice Aa a.length ca) (.slice (some ⟨gO, 0, none⟩) N c1) xs w9 by rw [hw9]; exact HM8.out.below' ((Below.refl _ _).alloc (Nat.le_refl _) _))
                have hq4 : ∀ j : Nat, j < 4 → ∃ m : Int, w9.cell? ⟨w8.heap.size, j, none⟩ = some (.int .i64 m) := fun j hj => by
                  rw [hw9, World.cell?_alloc_new]
                  match j, hj with
                  | 0, _ => exact ⟨_, rfl⟩
                  | 1, _ => exact ⟨_, rfl⟩
                  | 2, _ => exact ⟨_, rfl⟩
                  | 3, _ => exact ⟨_, rfl⟩
                have hg89 : w8.heap.size < w9.heap.size := by rw [hw9]; simp
                have hd8 : w8.heap.size ≠ d := by have := HDK8.out.lt; omega
                obtain ⟨g8, hg8⟩ : ∃ g, w8.heap.size = g := ⟨_, rfl⟩
                rw [hg8] at hq4 hg89 hd8
                have HQ4 := hide hq4
                have HD9 := hide hdk9
                go_wp2_with fail
                try rw [← hw9]
                try rw [hg8]
                clear hw9 hg8 hdk9 hq4
                refine (Next_any d 4 (by omega) (by omega) _ HD9.out).mono ?_
                rintro e wA ⟨u, hu, rfl, hdkA, hexA⟩
                obtain ⟨m, hm0⟩ := HQ4.out u hu
                have q0 := (hexA.cell (p := ⟨g8, u, none⟩) hg89 hd8).trans hm0
                have HMA := hide (HM9.out.ex hexA (by omega) hdb hbgn)
                have hu1 : (u : Int) < 4 := by omega
                have hu0 : (0 : Int) ≤ (u : Int) := by omega
                obtain ⟨s0, s2, k1, d0, d1, d2, z0, z1, z2⟩ := HMA.out.cells HXI.out hk
                clear hdkA hexA hm0
                go_wp2_with fail
                go_meet
                exact (HMA.out.store HXI.out HSG.out hk (.inr (.inl ⟨rfl, m, rfl⟩))).fin
              | 3, _ =>
                go_wp2_with fail
                refine (Next_any d 9 (by omega) (by omega) _ HDK8.out).mono ?_
                rintro e w9 ⟨u, hu, rfl, hdk9, hex9⟩
                have HM9 := hide (HM8.out.ex hex9 (by omega) hdb hbgn)
                clear hdk9 hex9
                go_wp2_with fail
                refine (Policy_any u hu _).mono ?_
                rintro e wA ⟨s, hs, rfl, hbA⟩
                have HMA := hide (HM9.out.below' hbA)
                have HSS := hide (show s.size ≤ 131072 by omega)
                obtain ⟨s0, s2, k1, d0, d1, d2, z0, z1, z2⟩ := HMA.out.cells HXI.out hk
                clear hbA
                go_wp2_with fail
                go_meet
                exact (HMA.out.store HXI.out HSG.out hk (.inl ⟨rfl, s, HSS.out, rfl⟩)).fin
              | 4, _ =>
                go_wp2_with fail
                go_meet
                exact HM8.out.fin
          · have hNi : ¬ (0 : Int) < (N : Int) := by omega
            have hFIN := HM5.out.fin
            have HF := hide hFIN
            clear hFIN
            go_wp2_with fail
            go_meet
            exact HF.out
        case rest =>
          clear HW0 HGN HROW HXN HXL HDK5 TA5
          obtain ⟨w7, rfl⟩ : ∃ w7 : World, w7 = wc := ⟨_, rfl⟩
          have hck := hcut
          obtain ⟨m, A2, c2, hv2, hsl2, hsm2⟩ := hck.sl
          simp only [Value.slice.injEq] at hv2
          obtain ⟨rfl, rfl, rfl⟩ := hv2
          have HSL := hide hsl2
          have HSM := hide hsm2
          have HCK := hide hck
          obtain ⟨r0, -⟩ := hck.raw.facts
          obtain ⟨m0, -⟩ := hck.nm.facts
          obtain ⟨w8, hw8⟩ : ∃ W, W = w7.alloc (.cells #[.slice Aa a.length ca, .slice A1 m.length c1] 24) := ⟨_, rfl⟩
          have hb78 : Below w7.heap.size w7 w8 := by rw [hw8]; exact (Below.refl _ _).alloc (Nat.le_refl _) _
          have hq2 : ∀ k, k < 2 → ∃ (x : Name) (A : Option Addr) (c : Nat), w8.cell? ⟨w7.heap.size, k, none⟩ = some (.slice A x.length c) ∧ Sl RRdn 1 w8 (Lt w8.heap.size) x [.slice A x.length c] ∧ SmallN x := fun k hk => by
            match k, hk with
            | 0, _ => exact ⟨a, Aa, ca, by rw [hw8, World.cell?_alloc_new]; rfl, (Sl.ok RRdn.ok).below ((Sl.ok RRdn.ok).below KA.out hck.below) hb78, SMA.out⟩
            | 1, _ => exact ⟨m, _, _, by rw [hw8, World.cell?_alloc_new]; rfl, (Sl.ok RRdn.ok).below hsl2 hb78, hsm2⟩
          have hg0 : w7.heap.size < w8.heap.size := by rw [hw8]; simp
          have HB8 := hide (hck.below.trans (hb78.mono hck.below.size))
          obtain ⟨g8, hg8⟩ : ∃ g, w7.heap.size = g := ⟨_, rfl⟩
          rw [hg8] at hq2 hg0
          have HQ2 := hide hq2
          clear hck hcut hsl2 hsm2 hb78 hq2
          go_wp2_with fail
          rw [← hw8]
          try rw [hg8]
          clear hw8 hg8 r0 m0
          go_loopw [94] (fun i wr => ∃ k : Nat, k ≤ 2 ∧ i = .int .i64 k ∧ Below w8.heap.size w8 wr) (fun i _ => 2 - (intOf i).toNat)
          case atStart => exact ⟨0, by omega, rfl, Below.refl _ _⟩
          case round =>
            obtain ⟨k, hk, rfl, hb⟩ := hrel
            obtain ⟨w9, rfl⟩ : ∃ wq : World, wq = wr := ⟨_, rfl⟩
            have HB := hide (HB8.out.trans (hb.mono HB8.out.size))
            have HBr := hide hb
            by_cases hlt : k < 2
            · have hlti : (k : Int) < 2 := by omega
              obtain ⟨x, A, c, d0, hsl, hsm⟩ := HQ2.out k hlt
              have p0 := (hb.cell (p := ⟨g8, k, none⟩) hg0).trans d0
              obtain ⟨wx, hwx⟩ : ∃ W, W = w9.alloc (.cells #[.slice A x.length c] 24) := ⟨_, rfl⟩
              have hbx : Below w9.heap.size w9 wx := by rw [hwx]; exact (Below.refl _ _).alloc (Nat.le_refl _) _
              have hnx : NB w9.heap.size (.slice A x.length c) wx := by rw [hwx]; exact heap_alloc_new w9 _
              obtain ⟨gx, hgx⟩ : ∃ g, w9.heap.size = g := ⟨_, rfl⟩
              rw [hgx] at hnx
              have HBX := hide (HB.out.trans (hbx.mono HB.out.size))
              have HBXr := hide (HBr.out.trans (hbx.mono HBr.out.size))
              have KN := hide ((Sl.ok RRdn.ok).below ((Sl.ok RRdn.ok).below hsl hb) hbx)
              have HSN := hide hsm
              obtain ⟨o, ho⟩ : ∃ o, encN x = o := ⟨_, rfl⟩
              have EN := hide (fun W (hb : Below wx.heap.size wx W) => NEncode_any x A c W (HMX.out.below (HBX.out.trans (hb.mono HBX.out.size))) ((Sl.ok RRdn.ok).below KN.out hb) HSN.out)
              have REN := hide (fun W (hb : Below wx.heap.size wx W) => rEncodeName_any x A c W (HMX.out.below (HBX.out.trans (hb.mono HBX.out.size))) ((Sl.ok RRdn.ok).below KN.out hb) HSN.out)
              rw [ho] at EN REN
              obtain ⟨E, hE⟩ : ∃ E : ByteArray, (⟨o.1.toArray⟩ : ByteArray) = E := ⟨_, rfl⟩
              obtain ⟨ke, hke⟩ : ∃ k, o.2 = k := ⟨_, rfl⟩
              have HWR := hide (show wrapR o = .tuple #[.string E, .int .i64 ke] by rw [wrapR, hE, hke])
              obtain ⟨q, hq⟩ : ∃ q, chkN x = q := ⟨_, rfl⟩
              have C1 := hide (fun W (h0 : W.cell? ⟨gx, 0, none⟩ = some (.slice A x.length c)) (hb : Below wx.heap.size wx W) =>
                (Check_any x A c W (HMX.out.below (HBX.out.trans (hb.mono HBX.out.size))) ((Sl.ok RRdn.ok).below KN.out hb) HSN.out).mono (R' := fun e W' => e = .returned (.int .i64 q) ∧ W'.cell? ⟨gx, 0, none⟩ = some (.slice A x.length c) ∧ Below wx.heap.size wx W')
                fun _ _ ⟨he, hb9⟩ => ⟨by rw [he, hq], cell_grows hb9 _ _ h0, hb.trans (hb9.mono hb.size)⟩)
              have C2 := hide (fun W (h0 : W.cell? ⟨gx, 0, none⟩ = some (.slice A x.length c)) (hb : Below wx.heap.size wx W) =>
                (rCheck_any x A c W (HMX.out.below (HBX.out.trans (hb.mono HBX.out.size))) ((Sl.ok RRdn.ok).below KN.out hb) HSN.out).mono (R' := fun e W' => e = .returned (.int .i64 q) ∧ W'.cell? ⟨gx, 0, none⟩ = some (.slice A x.length c) ∧ Below wx.heap.size wx W')
                fun _ _ ⟨he, hb9⟩ => ⟨by rw [he, hq], cell_grows hb9 _ _ h0, hb.trans (hb9.mono hb.size)⟩)
              have s1 : (q != q) = false := by simp
              have s2 : (E.toList != E.toList) = false := by simp
              have s3 : (ke != ke) = false := by simp
              obtain ⟨z0, -⟩ := hnx.facts
              clear ho hE hke hq hb d0 hsl hsm hbx hnx
              go_upto_region 20 with fail
              rw [← hwx]
              try rw [hgx]
              clear hwx hgx p0
              go_wp2_with fail
              refine (EN.out _ (Below.refl _ _)).mono ?_
              rintro e w5 ⟨rfl, hb5⟩
              rw [HWR.out]
              have HB5 := hide hb5
              have z0 := cell_grows hb5 _ _ z0
              clear hb5
              go_wp2_with fail
              refine (REN.out _ HB5.out).mono ?_
              rintro e w6 ⟨rfl, hb6⟩
              rw [HWR.out]
              have f3 := HB5.out.trans (hb6.mono HB5.out.size)
              have f0 := cell_grows hb6 _ _ z0
              have f0d : w6.drew.cell? ⟨gx, 0, none⟩ = some (.slice A x.length c) := f0
              have f3d := f3.drew
              clear hb6 z0
              go_upto_region 22 with fail
              go_region_held3 (fun W => W.cell? ⟨gx, 0, none⟩ = some (.slice A x.length c) ∧ Below wx.heap.size wx W)
                (first | exact ⟨hs1, hs2⟩ | exact ⟨f0, f3⟩ | exact ⟨f0d, f3d⟩)
                (first
                  | (go_at_call 18; (first | (with_reducible refine (C1.out _ hs1 hs2).mono ?_) | (with_reducible refine (C1.out _ f0d f3d).mono ?_) | fail); rintro e wn ⟨rfl, hs1, hs2⟩)
                  | (go_at_call 19; (first | (with_reducible refine (C2.out _ hs1 hs2).mono ?_) | (with_reducible refine (C2.out _ f0d f3d).mono ?_) | fail); rintro e wn ⟨rfl, hs1, hs2⟩)
                  | fail)
              all_goals
                have HBN := hide (HBXr.out.trans (hs2.mono HBXr.out.size))
                go_wp2_with fail
                go_roundw
                case rel => exact ⟨k + 1, by omega, by go_num, HBN.out⟩
                case measure => simp [intOf]; omega
            · clear hb
              go_wp2_with fail
              refine (nawake_any _ (HMX.out.below HB.out)).mono ?_
              rintro e wz ⟨rfl, hbz⟩
              go_wp2_with fail
              go_ret
              exact ⟨rfl, (HB.out).trans (hbz.mono (HB.out).size)⟩
end Go.Proofs.YtahamclodagihaaGreatDoor
