/- dname.Key. -/
import Derived.Test.YtahamclodagihaaGreatDoorKNkB
namespace Go.Proofs.YtahamclodagihaaGreatDoor
open Go.RowKit
theorem slot_eq {a : Act} {ss : List Nat} {val : Nat → Value} {s : Nat} {u v : Value} (h : (putF a ss val).tmps[s]? = some u) (hv : a = putF a ss val) (h2 : a.tmps[s]? = some v) : u = v := by
 rw [← hv, h2] at h
 exact (Option.some.inj h).symm
theorem news_any (w : World) (S : Nat → Prop) (t : TypeId) (p : Part) (u : Value) (hu : anyC p = [u]) :
  ∀ i z, [p][i]? = some z → ∃ cs, RAny (w.alloc (.cells #[u] t)) S z cs ∧ ∀ j x, cs[j]? = some x → (w.alloc (.cells #[u] t)).cell? ((⟨w.heap.size, 0, none⟩ : Addr).add (i * 1 + j)) = some x :=
 news_pu (f := anyC) (size := 1) anyC_len w S _ t _ (by simp [hu])
theorem sl_any2 {W : World} {g : Nat} {x y : ByteArray} (hg : g < W.heap.size) (h : W.cell? ⟨g, 0, none⟩ = some (.iface 9 (.string x))) (h2 : W.cell? ⟨g, 1, none⟩ = some (.iface 9 (.string y))) :
    Sl RAny 1 W (Lt W.heap.size) [.inr x.data.toList, .inr y.data.toList] [.slice (some ⟨g, 0, none⟩) 2 2] :=
  ⟨_, 2, rfl, Nat.le_refl _, by simp [maxLen], fun _ => ⟨g, 0, rfl, hg, fun i z hz => ⟨anyC z, rfl, fun j u hu => by
    match i, hz, j, hu with
    | 0, hz, 0, hu =>
      simp at hz; subst hz
      simp [anyC] at hu; subst hu
      simpa using h
    | 1, hz, 0, hu =>
      simp at hz; subst hz
      simp [anyC] at hu; subst hu
      simpa using h2
    | 0, hz, j + 1, hu => (simp at hz; subst hz; simp [anyC] at hu)
    | 1, hz, j + 1, hu => (simp at hz; subst hz; simp [anyC] at hu)⟩⟩⟩
theorem Sl.str_at {w w' : World} {S S' : Nat → Prop} {g o n c : Nat} {l : List (List UInt8)} (h : Sl RStr 1 w S l [.slice (some ⟨g, o, none⟩) n c]) (hg : S' g) (hh : w'.heap[g]? = w.heap[g]?) : Sl RStr 1 w' S' l [.slice (some ⟨g, o, none⟩) n c] := by
 obtain ⟨A, c', e, h1, h2, h3⟩ := h
 refine ⟨A, c', e, h1, h2, fun h0 => ?_⟩
 obtain ⟨b, off, hA, hb, hx⟩ := h3 h0
 simp only [List.cons.injEq, and_true, Value.slice.injEq] at e
 obtain ⟨rfl, -, -⟩ := e
 cases hA
 exact ⟨g, o, rfl, hg, fun i x hi => by
  obtain ⟨cs, h4, h5⟩ := hx i x hi
  exact ⟨cs, h4, fun j u hu => (World.cell?_of_block (a := ⟨g, o + (i * 1 + j), none⟩) hh).trans (h5 j u hu)⟩⟩
theorem Own.no {e : TypeId} {w : World} {base : Nat} {S : Nat → Prop} {v : Value} {l : List Part} (h : Own RAny 1 e w base S v l) : Own RAny 1 e w base No v l := by
 obtain ⟨xs, h1, _, h3⟩ := h
 exact ⟨xs, h1, fun _ _ h => h, h3⟩
def keyPt (r : List Attr) : List Part := .inl r.length :: (keyR r).map .inr
def keyParts (n : Name) : List Part := .inl n.length :: n.flatMap keyPt
theorem inr_flat : ∀ l : List (List UInt8), (l.map Sum.inr : List Part).flatMap jP = l.flatMap jStr
 | [] => rfl
 | x :: l => by rw [List.map_cons, List.flatMap_cons, List.flatMap_cons, inr_flat l]; rfl
theorem keyPt_flat (r : List Attr) : (keyPt r).flatMap jP = keyP r := by rw [keyPt, List.flatMap_cons, inr_flat]; rfl
theorem keyPts_flat : ∀ n : Name, (n.flatMap keyPt).flatMap jP = n.flatMap keyP
 | [] => rfl
 | r :: n => by rw [List.flatMap_cons, List.flatMap_append, keyPt_flat, keyPts_flat n, List.flatMap_cons]
theorem keyParts_flat (n : Name) : (keyParts n).flatMap jP = keyN n := by rw [keyParts, List.flatMap_cons, keyPts_flat]; rfl
theorem foldF_len (l : List UInt8) : (foldF l).length ≤ 2 * l.length := by
 have := foldG_len l [] false
 simpa [foldF] using this
theorem keyA_len {a : Attr} (h : okA a) : (keyA a).length ≤ 2000 := by
 have h1 : a.1.length ≤ 1000 := valid_len h.1
 have h2 : a.2.2.length ≤ 64 := h.2.2.2
 have h3 := foldF_len a.2.2
 have h4 := jStr_len a.1 (by omega)
 have h5 := jStr_len (foldF a.2.2) (by omega)
 rw [keyA, List.length_append]; omega
theorem keyR_mem {r : List Attr} (h : okR r) {s : List UInt8} (hs : s ∈ keyR r) : s.length ≤ 2000 := by
 rw [keyR, (ordF_perm _).mem_iff] at hs
 obtain ⟨a, ha, rfl⟩ := List.mem_map.1 hs
 exact keyA_len (h.2.2.1 a ha)
theorem keyParts_ok {n : Name} (h8 : n.length ≤ 8) (h : ∀ r ∈ n, okR r) : ∀ p ∈ keyParts n, okP p := fun p hp => by
 rcases List.mem_cons.1 hp with rfl | hp
 ·show n.length ≤ 100000; omega
 ·obtain ⟨r, hr, hp⟩ := List.mem_flatMap.1 hp
  rcases List.mem_cons.1 hp with rfl | hp
  ·have := (h r hr).2.1
   show r.length ≤ 100000; omega
  ·obtain ⟨s, hs, rfl⟩ := List.mem_map.1 hp
   have := keyR_mem (h r hr) hs
   show s.length ≤ 100000; omega
structure KeyJ (base : Nat) (sv : Value) (ga : Nat) (t v f e : ByteArray) (out : List (List UInt8)) (w0 : World) (dd : Nat → Bool) (val : Nat → Value) (W : World) : Prop where
 fb : dd 11 = false → Below w0.heap.size w0 W
 fb2 : Below base w0 W
 nF : dd 12 = false → val 6 = sv
 v31 : dd 0 = true → val 31 = sv
 v32 : dd 1 = true → val 32 = .pointer (some ⟨ga, 0, none⟩)
 v33 : dd 2 = true → val 33 = .string t
 v34 : dd 3 = true → val 34 = .iface 9 (.string t)
 v35 : dd 4 = true → val 35 = .pointer (some ⟨ga, 2, none⟩)
 v36 : dd 5 = true → val 36 = .string v
 v37 : dd 6 = true → val 37 = .string f
 v38 : dd 7 = true → val 38 = .iface 9 (.string f)
 v40 : dd 9 = true → val 40 = .string e
 r39 : dd 8 = true → dd 11 = false → ∃ g, val 39 = .slice (some ⟨g, 0, none⟩) 2 2 ∧ g < W.heap.size ∧ W.cell? ⟨g, 0, none⟩ = some (.iface 9 (.string t)) ∧ W.cell? ⟨g, 1, none⟩ = some (.iface 9 (.string f))
 r41 : dd 10 = true → dd 11 = false → ∃ g, val 41 = .slice (some ⟨g, 0, none⟩) 1 1 ∧ g < W.heap.size ∧ W.cell? ⟨g, 0, none⟩ = some (.string e)
 rA : dd 11 = true → Own RStr 1 9 W base No (val 42) (out ++ [e.data.toList])
 vF : dd 12 = true → val 6 = val 42
theorem KeyJ.start {base : Nat} {sv : Value} {ga : Nat} {t v f e : ByteArray} {out : List (List UInt8)} {w0 : World} {val : Nat → Value} (h : val 6 = sv) : KeyJ base sv ga t v f e out w0 (fun _ => false) val w0.drew :=
 ⟨fun _ => (Below.refl _ _).drew, (Below.refl _ _).drew, fun _ => h, nofun, nofun, nofun, nofun, nofun, nofun, nofun, nofun, nofun, nofun, nofun, nofun, nofun⟩
set_option maxRecDepth 100000 in
set_option maxHeartbeats 16000000 in
theorem Key_any (n : Name) (hchk : chkN n = 0) (A : Option Addr) (c : Nat) (z : ByteArray) (hz : z = ⟨(keyN n).toArray⟩) (w : World) (htb : Tb w) (h : Sl RRdn 1 w (Lt w.heap.size) n [.slice A n.length c]) :
    Calls Tryz.prog 25 #[.agg #[.slice A n.length c]] w fun e w' => e = .returned (.string z) ∧ Below w.heap.size w w' := by
  have HTB := hide htb
  have K := hide h
  have HZ := hide hz
  have HOK := hide ((chkN_iff n).1 hchk).2
  have hn8 : n.length ≤ 8 := ((chkN_iff n).1 hchk).1
  obtain ⟨W0, hW0⟩ : ∃ W, W = w.alloc (.cells #[.slice A n.length c] 24) := ⟨_, rfl⟩
  have hnb : NB w.heap.size (.slice A n.length c) W0 := by rw [hW0]; exact heap_alloc_new w _
  have hb0 : Below w.heap.size w W0 := by rw [hW0]; exact (Below.refl _ _).alloc (Nat.le_refl _) _
  have HNB := hide hnb
  have HB0 := hide hb0
  obtain ⟨c0, -⟩ := hnb.facts
  obtain ⟨base, hbase⟩ : ∃ b, b = W0.heap.size := ⟨_, rfl⟩
  have hgs0 : base ≤ W0.heap.size := by omega
  have hlt0 := hnb.lt
  have hbw : w.heap.size ≤ base := by omega
  have HCX := hide (show ∀ o W, Below base (W0.alloc o) W → W.cell? ⟨w.heap.size, 0, none⟩ = some (.slice A n.length c) from fun o W h =>
    (h.cell (p := ⟨w.heap.size, 0, none⟩) (by show w.heap.size < base; omega)).trans ((World.cell?_alloc_lt W0 o ⟨w.heap.size, 0, none⟩ hlt0).trans c0))
  clear htb h hz hchk hnb hb0 hbase hlt0
  go_enter Tryz.func25, Tryz.ntmps25
  go_upto_region 1 with fail
  rw [← hW0]
  clear hW0
  go_wp2_with (at_builtin; refine wpList_app RAny.ok _ rfl (.tmp 11) (.tmp 16) 104 rfl base 20 .nilIface 16 Tryz.underlying104 info_any rfl (by decide) No (.slice none 0 0) [] rfl (Own.nil _ _ _ _ _ _) ⟨_, 0, none⟩ 1 1 [.inl n.length] rfl rfl (news_any _ _ _ (.inl n.length) _ rfl) (no_lt _) (by simp) (by simp [maxLen]) (by simp; omega) ?_; intro v6 w6 hown6 hg6 hb6 hat6; have hsz6 := hb6.size; simp at hsz6; have c06 := HCX.out _ _ hb6; have HB6 := hide ((HB0.out.alloc HB0.out.size _).trans (hb6.mono hbw)); clear hb6 hg6 hat6 c0)
  go_loopw [3, 21] (fun v i wr => ∃ (k : Nat) (ps : List Part), k ≤ n.length ∧ i = .int .i64 k ∧ ps.length ≤ 1 + 5 * k ∧ Own RAny 1 20 wr base No v ps ∧ Below w.heap.size w wr ∧ base ≤ wr.heap.size ∧ Hid (ps = .inl n.length :: (n.take k).flatMap keyPt)) (fun _ i _ => n.length - (intOf i).toNat)
  case atStart => exact ⟨0, [.inl n.length], by omega, rfl, by simp, hown6, HB6.out, by omega, hide (by simp)⟩
  case round =>
    obtain ⟨k, ps, hk, rfl, hps, hown, hb, hgs, HPS⟩ := hrel
    have HB := hide hb
    have HOWN := hide hown
    by_cases hlt : k < n.length
    · obtain ⟨b, off, A2, c2, hA, hbS, d0, hsl⟩ := K.out.rdnAt hlt
      subst hA
      have hokr := HOK.out n[k] (List.getElem_mem hlt)
      have p0 := (hb.cell (p := ⟨b, off + k, none⟩) hbS).trans d0
      obtain ⟨r, hr⟩ : ∃ r, n[k] = r := ⟨_, rfl⟩
      have HSTEPK := hide (flat_take keyPt n k hlt hr)
      have hslr := (Sl.ok RAttr.ok).below hsl hb
      rw [hr] at p0 hokr hslr
      have HSLR := hide hslr
      have HOKR := hide hokr
      have hr4 : r.length ≤ 4 := hokr.2.1
      obtain ⟨A5, c5, hv5⟩ := (hown.sl RAny.ok).shape
      subst hv5
      have hps8 : ps.length ≤ 41 := by omega
      clear hb d0 hsl hr hokr hslr hown
      obtain ⟨w0, rfl⟩ : ∃ wo : World, wo = wr := ⟨_, rfl⟩
      obtain ⟨bi, hbi⟩ : ∃ b, b = w0.heap.size := ⟨_, rfl⟩
      have hgi0 : bi ≤ w0.heap.size := by omega
      have hbi9 : base ≤ bi := by omega
      have HBI := hide hbi
      clear hbi
      go_wp2_with fail
      go_loopw [6, 27] (fun v i wi => ∃ (j : Nat) (out : List (List UInt8)), j ≤ r.length ∧ i = .int .i64 j ∧ out.length = j ∧ Own RStr 1 9 wi bi No v out ∧ Below w0.heap.size w0 wi ∧ bi ≤ wi.heap.size ∧ Hid (out = (r.take j).map keyA)) (fun _ i _ => r.length - (intOf i).toNat)
      case atStart => exact ⟨0, [], by omega, rfl, rfl, Own.nil _ _ _ _ _ _, Below.refl _ _, hgi0, hide (by simp)⟩
      case round =>
        obtain ⟨j, out, hj, rfl, hol, hown2, hb2, hgi, HOUT⟩ := hrel
        have HB2a := hide hb2
        have HOWN2a := hide hown2
        have HOL := hide hol
        by_cases hjl : j < r.length
        · obtain ⟨b3, o3, hA3, hbS3, e0, e1, e2⟩ := HSLR.out.attAt hjl
          subst hA3
          have hoka := HOKR.out.2.2.1 r[j] (List.getElem_mem hjl)
          obtain ⟨⟨at_, kd, av⟩, hel⟩ : ∃ a, r[j] = a := ⟨_, rfl⟩
          rw [hel] at e0 e1 e2 hoka
          simp only at e0 e1 e2
          obtain ⟨t, ht⟩ : ∃ x : ByteArray, x = ⟨at_.toArray⟩ := ⟨_, rfl⟩
          obtain ⟨v, hv⟩ : ∃ x : ByteArray, x = ⟨av.toArray⟩ := ⟨_, rfl⟩
          have htd : at_ = t.data.toList := by rw [ht]
          have hvd : av = v.data.toList := by rw [hv]
          rw [← ht] at e0
          rw [← hv] at e2
          rw [htd, hvd] at hoka
          have hts : t.size ≤ 1000 := by rw [← size_string]; exact valid_len hoka.1
          have hvs : v.size ≤ 64 := by rw [← size_string]; exact hoka.2.2.2
          obtain ⟨f, hf⟩ : ∃ x : ByteArray, x = ⟨(foldF v.data.toList).toArray⟩ := ⟨_, rfl⟩
          have hfs : f.size ≤ 128 := by
            rw [hf, ba_mk]
            have := foldF_len v.data.toList
            rw [size_string] at this
            omega
          obtain ⟨e, he⟩ : ∃ x : ByteArray, x = ⟨(keyA (t.data.toList, kd, v.data.toList)).toArray⟩ := ⟨_, rfl⟩
          have HFO := hide (show ∀ W : World, Calls Tryz.prog 74 #[.string v] W fun e9 w' => e9 = .returned (.string f) ∧ Below W.heap.size W w' from fun W => by
            have := Fold_any v (by omega) W
            rw [show foldG [] false v.data.toList = foldF v.data.toList from rfl, ← hf] at this
            exact this)
          have p1 := (hb2.cell (p := ⟨b3, o3 + j * 3, none⟩) hbS3).trans e0
          have p2 := (hb2.cell (p := ⟨b3, o3 + j * 3 + 1, none⟩) hbS3).trans e1
          have p3 := (hb2.cell (p := ⟨b3, o3 + j * 3 + 2, none⟩) hbS3).trans e2
          have HSTEP := hide (map_step keyA r j hjl (y := e.data.toList) (by rw [hel, htd, hvd, he]))
          have hzf : e = ⟨([Sum.inr t.data.toList, Sum.inr f.data.toList].flatMap jP).toArray⟩ := by
            rw [he, hf]
            simp [keyA, jP]
          have hokp : ∀ p ∈ ([Sum.inr t.data.toList, Sum.inr f.data.toList] : List Part), okP p := fun p hp => by
            simp only [List.mem_cons, List.not_mem_nil, or_false] at hp
            rcases hp with rfl | rfl
            · show t.data.toList.length ≤ 100000; rw [size_string]; omega
            · show f.data.toList.length ≤ 100000; rw [size_string]; omega
          obtain ⟨A6, c6, hv6⟩ := (hown2.sl RStr.ok).shape
          subst hv6
          have ho4 : out.length ≤ 4 := by omega
          have hzb := HB.out.size
          have HZF := hide hzf
          have HOKP := hide hokp
          clear e0 e1 e2 ht hv hel htd hvd hoka hf he hzf hokp hb2 hown2 hol hts hvs hfs
          obtain ⟨wi, rfl⟩ : ∃ wo : World, wo = wr := ⟨_, rfl⟩
          go_upto_region 10 with fail
          obtain ⟨w1, hw1⟩ : ∃ W, W = wi.alloc (.cells #[.string t, .int .i64 kd, .string v] 27) := ⟨_, rfl⟩
          have hAB : AtB wi.heap.size t kd v w1 := by rw [hw1]; exact AtB.new wi _ _ _
          have hb01 : Below wi.heap.size wi w1 := by rw [hw1]; exact (Below.refl _ _).alloc (Nat.le_refl _) _
          obtain ⟨ga, hga⟩ : ∃ g, wi.heap.size = g := ⟨_, rfl⟩
          have HOWN2 := hide (HOWN2a.out.below RStr.ok (no_lt _) hb01)
          have hbs1 : w0.heap.size ≤ bi := by rw [HBI.out]; exact Nat.le_refl _
          have HB2 := hide (HB2a.out.trans (hb01.mono HB2a.out.size))
          have hb1 : bi ≤ w1.heap.size := by have := hb01.size; omega
          rw [hga] at hAB
          have HC := hide (show ∀ W, Below w1.heap.size w1 W → W.cell? ⟨ga, 0, none⟩ = some (.string t) ∧ W.cell? ⟨ga, 2, none⟩ = some (.string v) from fun W hb => ⟨(hAB.below hb).facts.1, (hAB.below hb).facts.2.2.1⟩)
          have HTB1 := hide (HTB.out.below (HB.out.trans (HB2.out.mono HB.out.size)))
          have HJO := hide (show ∀ (W : World) (g : Nat), Below w1.heap.size w1 W → g < W.heap.size → W.cell? ⟨g, 0, none⟩ = some (.iface 9 (.string t)) → W.cell? ⟨g, 1, none⟩ = some (.iface 9 (.string f)) →
              Calls Tryz.prog 73 #[.slice (some ⟨g, 0, none⟩) 2 2] W fun e9 w' => e9 = .returned (.string e) ∧ Below W.heap.size W w' from fun W g hbW hg hc hc2 =>
            join_any [.inr t.data.toList, .inr f.data.toList] HOKP.out (by simp) _ 2 2 e HZF.out W (HTB1.out.below hbW) (sl_any2 hg hc hc2))
          rw [← hw1]
          try rw [hga]
          clear hw1 hAB hb01 hga p1 p2 p3
          refine region_inv3 [31, 32, 33, 34, 35, 36, 37, 38, 39, 40, 41, 42, 6] (KeyJ bi (.slice A6 out.length c6) ga t v f e out w1) (by kernel_rfl) (by kernel_rfl) (fun val hval => KeyJ.start (slot_eq ((putF_get [31, 32, 33, 34, 35, 36, 37, 38, 39, 40, 41, 42, 6] val 6 _ (by simp)).trans (if_pos (by decide))) hval rfl)) ⟨?_, ?_, ?_, ?_, ?_, ?_, ?_, ?_, ?_, ?_, ?_, ?_, ?_, trivial⟩ ?_
          · refine ⟨fun s hs => by cases hs <;> decide, ?_⟩
            rintro dd val W hJ hd hdep hcl K hK
            rw [if_pos (by rfl)]
            dsimp only [putF, List.foldl, Act.put] at hK ⊢
            simp only [List.setIfInBounds_toArray, List.set_cons_zero, List.set_cons_succ] at hK ⊢
            have nF := hJ.nF (by
              cases h14 : dd 12 with
              | false => rfl
              | true =>
                have c13 := hcl 12 _ rfl h14 ⟨11, .data⟩ (by simp) rfl
                have c0 := hcl 11 _ rfl c13 ⟨0, .data⟩ (by simp) rfl
                rw [hd] at c0; cases c0)
            simp only [nF] at hK ⊢
            go_simp
            exact hK.out _ _ { fb := hJ.fb, fb2 := hJ.fb2, nF := hJ.nF, v31 := fun _ => rfl, v32 := hJ.v32, v33 := hJ.v33, v34 := hJ.v34, v35 := hJ.v35, v36 := hJ.v36, v37 := hJ.v37, v38 := hJ.v38, v40 := hJ.v40, r39 := hJ.r39, r41 := hJ.r41, rA := hJ.rA, vF := hJ.vF }
          · refine ⟨fun s hs => by cases hs <;> decide, ?_⟩
            rintro dd val W hJ hd hdep hcl K hK
            rw [if_pos (by rfl)]
            dsimp only [putF, List.foldl, Act.put] at hK ⊢
            simp only [List.setIfInBounds_toArray, List.set_cons_zero, List.set_cons_succ] at hK ⊢
            go_simp
            exact hK.out _ _ { fb := hJ.fb, fb2 := hJ.fb2, nF := hJ.nF, v31 := hJ.v31, v32 := fun _ => rfl, v33 := hJ.v33, v34 := hJ.v34, v35 := hJ.v35, v36 := hJ.v36, v37 := hJ.v37, v38 := hJ.v38, v40 := hJ.v40, r39 := hJ.r39, r41 := hJ.r41, rA := hJ.rA, vF := hJ.vF }
          · refine ⟨fun s hs => by cases hs <;> decide, ?_⟩
            rintro dd val W hJ hd hdep hcl K hK
            rw [if_pos (by rfl)]
            dsimp only [putF, List.foldl, Act.put] at hK ⊢
            simp only [List.setIfInBounds_toArray, List.set_cons_zero, List.set_cons_succ] at hK ⊢
            have h13 : dd 11 = false := by
              cases h : dd 11 with
              | false => rfl
              | true =>
                have c11 := h
                have c10 := hcl 11 _ rfl c11 ⟨10, .data⟩ (by simp) rfl
                have c9 := hcl 10 _ rfl c10 ⟨9, .data⟩ (by simp) rfl
                have c8 := hcl 9 _ rfl c9 ⟨8, .data⟩ (by simp) rfl
                have c3 := hcl 8 _ rfl c8 ⟨3, .data⟩ (by simp) rfl
                have c2 := hcl 3 _ rfl c3 ⟨2, .data⟩ (by simp) rfl
                rw [hd] at c2; cases c2
            have e32 := hJ.v32 (hdep ⟨1, .data⟩ (by simp) rfl)
            simp only [e32] at hK ⊢
            have q0 := (HC.out W (hJ.fb h13)).1
            go_simp
            exact hK.out _ _ { fb := hJ.fb, fb2 := hJ.fb2, nF := hJ.nF, v31 := hJ.v31, v32 := hJ.v32, v33 := fun _ => rfl, v34 := hJ.v34, v35 := hJ.v35, v36 := hJ.v36, v37 := hJ.v37, v38 := hJ.v38, v40 := hJ.v40, r39 := hJ.r39, r41 := hJ.r41, rA := hJ.rA, vF := hJ.vF }
          · refine ⟨fun s hs => by cases hs <;> decide, ?_⟩
            rintro dd val W hJ hd hdep hcl K hK
            rw [if_pos (by rfl)]
            dsimp only [putF, List.foldl, Act.put] at hK ⊢
            simp only [List.setIfInBounds_toArray, List.set_cons_zero, List.set_cons_succ] at hK ⊢
            have h13 : dd 11 = false := by
              cases h : dd 11 with
              | false => rfl
              | true =>
                have c11 := h
                have c10 := hcl 11 _ rfl c11 ⟨10, .data⟩ (by simp) rfl
                have c9 := hcl 10 _ rfl c10 ⟨9, .data⟩ (by simp) rfl
                have c8 := hcl 9 _ rfl c9 ⟨8, .data⟩ (by simp) rfl
                have c3 := hcl 8 _ rfl c8 ⟨3, .data⟩ (by simp) rfl
                rw [hd] at c3; cases c3
            have e33 := hJ.v33 (hdep ⟨2, .data⟩ (by simp) rfl)
            simp only [e33] at hK ⊢
            go_simp
            exact hK.out _ _ { fb := hJ.fb, fb2 := hJ.fb2, nF := hJ.nF, v31 := hJ.v31, v32 := hJ.v32, v33 := hJ.v33, v34 := fun _ => rfl, v35 := hJ.v35, v36 := hJ.v36, v37 := hJ.v37, v38 := hJ.v38, v40 := hJ.v40, r39 := hJ.r39, r41 := hJ.r41, rA := hJ.rA, vF := hJ.vF }
          · refine ⟨fun s hs => by cases hs <;> decide, ?_⟩
            rintro dd val W hJ hd hdep hcl K hK
            rw [if_pos (by rfl)]
            dsimp only [putF, List.foldl, Act.put] at hK ⊢
            simp only [List.setIfInBounds_toArray, List.set_cons_zero, List.set_cons_succ] at hK ⊢
            go_simp
            exact hK.out _ _ { fb := hJ.fb, fb2 := hJ.fb2, nF := hJ.nF, v31 := hJ.v31, v32 := hJ.v32, v33 := hJ.v33, v34 := hJ.v34, v35 := fun _ => rfl, v36 := hJ.v36, v37 := hJ.v37, v38 := hJ.v38, v40 := hJ.v40, r39 := hJ.r39, r41 := hJ.r41, rA := hJ.rA, vF := hJ.vF }
          · refine ⟨fun s hs => by cases hs <;> decide, ?_⟩
            rintro dd val W hJ hd hdep hcl K hK
            rw [if_pos (by rfl)]
            dsimp only [putF, List.foldl, Act.put] at hK ⊢
            simp only [List.setIfInBounds_toArray, List.set_cons_zero, List.set_cons_succ] at hK ⊢
            have h13 : dd 11 = false := by
              cases h : dd 11 with
              | false => rfl
              | true =>
                have c11 := h
                have c10 := hcl 11 _ rfl c11 ⟨10, .data⟩ (by simp) rfl
                have c9 := hcl 10 _ rfl c10 ⟨9, .data⟩ (by simp) rfl
                have c8 := hcl 9 _ rfl c9 ⟨8, .data⟩ (by simp) rfl
                have c7 := hcl 8 _ rfl c8 ⟨7, .data⟩ (by simp) rfl
                have c6 := hcl 7 _ rfl c7 ⟨6, .data⟩ (by simp) rfl
                have c5 := hcl 6 _ rfl c6 ⟨5, .data⟩ (by simp) rfl
                rw [hd] at c5; cases c5
            have e35 := hJ.v35 (hdep ⟨4, .data⟩ (by simp) rfl)
            simp only [e35] at hK ⊢
            have q0 := (HC.out W (hJ.fb h13)).2
            go_simp
            exact hK.out _ _ { fb := hJ.fb, fb2 := hJ.fb2, nF := hJ.nF, v31 := hJ.v31, v32 := hJ.v32, v33 := hJ.v33, v34 := hJ.v34, v35 := hJ.v35, v36 := fun _ => rfl, v37 := hJ.v37, v38 := hJ.v38, v40 := hJ.v40, r39 := hJ.r39, r41 := hJ.r41, rA := hJ.rA, vF := hJ.vF }
          · refine ⟨fun s hs => by cases hs <;> decide, ?_⟩
            rintro dd val W hJ hd hdep hcl K hK
            rw [if_pos (by rfl)]
            dsimp only [putF, List.foldl, Act.put] at hK ⊢
            simp only [List.setIfInBounds_toArray, List.set_cons_zero, List.set_cons_succ] at hK ⊢
            have h13 : dd 11 = false := by
              cases h : dd 11 with
              | false => rfl
              | true =>
                have c11 := h
                have c10 := hcl 11 _ rfl c11 ⟨10, .data⟩ (by simp) rfl
                have c9 := hcl 10 _ rfl c10 ⟨9, .data⟩ (by simp) rfl
                have c8 := hcl 9 _ rfl c9 ⟨8, .data⟩ (by simp) rfl
                have c7 := hcl 8 _ rfl c8 ⟨7, .data⟩ (by simp) rfl
                have c6 := hcl 7 _ rfl c7 ⟨6, .data⟩ (by simp) rfl
                rw [hd] at c6; cases c6
            have e36 := hJ.v36 (hdep ⟨5, .data⟩ (by simp) rfl)
            simp only [e36] at hK ⊢
            have hb13 := hJ.fb h13
            go_simp
            refine (HFO.out W).mono ?_
            rintro e9 w7 ⟨rfl, hb7⟩
            go_wp2_with fail
            exact hK.out _ _ { fb := fun _ => hb13.trans (hb7.mono hb13.size), fb2 := hJ.fb2.trans (hb7.mono (by have := hb13.size; omega)), nF := hJ.nF, v31 := hJ.v31, v32 := hJ.v32, v33 := hJ.v33, v34 := hJ.v34, v35 := hJ.v35, v36 := hJ.v36, v37 := fun _ => rfl, v38 := hJ.v38, v40 := hJ.v40, r39 := fun h1 h13 => (let ⟨g, y1, y2, z0, z1⟩ := hJ.r39 h1 h13; ⟨g, y1, Nat.lt_of_lt_of_le y2 hb7.size, (hb7.cell (p := ⟨g, 0, none⟩) y2).trans z0, (hb7.cell (p := ⟨g, 1, none⟩) y2).trans z1⟩), r41 := fun h1 h13 => (let ⟨g, y1, y2, z0⟩ := hJ.r41 h1 h13; ⟨g, y1, Nat.lt_of_lt_of_le y2 hb7.size, (hb7.cell (p := ⟨g, 0, none⟩) y2).trans z0⟩), rA := fun h => (by rw [show don dd _ 11 = dd 11 from rfl, h13] at h; cases h), vF := hJ.vF }
          · refine ⟨fun s hs => by cases hs <;> decide, ?_⟩
            rintro dd val W hJ hd hdep hcl K hK
            rw [if_pos (by rfl)]
            dsimp only [putF, List.foldl, Act.put] at hK ⊢
            simp only [List.setIfInBounds_toArray, List.set_cons_zero, List.set_cons_succ] at hK ⊢
            have e37 := hJ.v37 (hdep ⟨6, .data⟩ (by simp) rfl)
            simp only [e37] at hK ⊢
            go_simp
            exact hK.out _ _ { fb := hJ.fb, fb2 := hJ.fb2, nF := hJ.nF, v31 := hJ.v31, v32 := hJ.v32, v33 := hJ.v33, v34 := hJ.v34, v35 := hJ.v35, v36 := hJ.v36, v37 := hJ.v37, v38 := fun _ => rfl, v40 := hJ.v40, r39 := hJ.r39, r41 := hJ.r41, rA := hJ.rA, vF := hJ.vF }
          · refine ⟨fun s hs => by cases hs <;> decide, ?_⟩
            rintro dd val W hJ hd hdep hcl K hK
            rw [if_pos (by rfl)]
            dsimp only [putF, List.foldl, Act.put] at hK ⊢
            simp only [List.setIfInBounds_toArray, List.set_cons_zero, List.set_cons_succ] at hK ⊢
            have h13 : dd 11 = false := by
              cases h : dd 11 with
              | false => rfl
              | true =>
                have c11 := h
                have c10 := hcl 11 _ rfl c11 ⟨10, .data⟩ (by simp) rfl
                have c9 := hcl 10 _ rfl c10 ⟨9, .data⟩ (by simp) rfl
                have c8 := hcl 9 _ rfl c9 ⟨8, .data⟩ (by simp) rfl
                rw [hd] at c8; cases c8
            have e34 := hJ.v34 (hdep ⟨3, .data⟩ (by simp) rfl)
            have e38 := hJ.v38 (hdep ⟨7, .data⟩ (by simp) rfl)
            simp only [e34, e38] at hK ⊢
            go_simp
            have hb7 : Below W.heap.size W (W.alloc (.cells #[.iface 9 (.string t), .iface 9 (.string f)] 20)) := (Below.refl _ _).alloc (Nat.le_refl _) _
            have hb13 := hJ.fb h13
            exact hK.out _ _ { fb := fun _ => hb13.trans (hb7.mono hb13.size), fb2 := hJ.fb2.trans (hb7.mono (by have := hb13.size; omega)), nF := hJ.nF, v31 := hJ.v31, v32 := hJ.v32, v33 := hJ.v33, v34 := hJ.v34, v35 := hJ.v35, v36 := hJ.v36, v37 := hJ.v37, v38 := hJ.v38, v40 := hJ.v40, r39 := fun _ _ => ⟨W.heap.size, rfl, by simp, by rw [World.cell?_alloc_new]; rfl, by rw [World.cell?_alloc_new]; rfl⟩, r41 := fun h1 h13 => (let ⟨g, y1, y2, z0⟩ := hJ.r41 h1 h13; ⟨g, y1, Nat.lt_of_lt_of_le y2 hb7.size, (hb7.cell (p := ⟨g, 0, none⟩) y2).trans z0⟩), rA := fun h => (by rw [show don dd _ 11 = dd 11 from rfl, h13] at h; cases h), vF := hJ.vF }
          · refine ⟨fun s hs => by cases hs <;> decide, ?_⟩
            rintro dd val W hJ hd hdep hcl K hK
            rw [if_pos (by rfl)]
            dsimp only [putF, List.foldl, Act.put] at hK ⊢
            simp only [List.setIfInBounds_toArray, List.set_cons_zero, List.set_cons_succ] at hK ⊢
            have h13 : dd 11 = false := by
              cases h : dd 11 with
              | false => rfl
              | true =>
                have c11 := h
                have c10 := hcl 11 _ rfl c11 ⟨10, .data⟩ (by simp) rfl
                have c9 := hcl 10 _ rfl c10 ⟨9, .data⟩ (by simp) rfl
                rw [hd] at c9; cases c9
            obtain ⟨g39, x39, y39, z39_0, z39_1⟩ := hJ.r39 (hdep ⟨8, .data⟩ (by simp) rfl) h13
            simp only [x39] at hK ⊢
            have hb13 := hJ.fb h13
            go_simp
            refine (HJO.out W g39 (hJ.fb h13) y39 z39_0 z39_1).mono ?_
            rintro e9 w7 ⟨rfl, hb7⟩
            go_wp2_with fail
            exact hK.out _ _ { fb := fun _ => hb13.trans (hb7.mono hb13.size), fb2 := hJ.fb2.trans (hb7.mono (by have := hb13.size; omega)), nF := hJ.nF, v31 := hJ.v31, v32 := hJ.v32, v33 := hJ.v33, v34 := hJ.v34, v35 := hJ.v35, v36 := hJ.v36, v37 := hJ.v37, v38 := hJ.v38, v40 := fun _ => rfl, r39 := fun h1 h13 => (let ⟨g, y1, y2, z0, z1⟩ := hJ.r39 h1 h13; ⟨g, y1, Nat.lt_of_lt_of_le y2 hb7.size, (hb7.cell (p := ⟨g, 0, none⟩) y2).trans z0, (hb7.cell (p := ⟨g, 1, none⟩) y2).trans z1⟩), r41 := fun h1 h13 => (let ⟨g, y1, y2, z0⟩ := hJ.r41 h1 h13; ⟨g, y1, Nat.lt_of_lt_of_le y2 hb7.size, (hb7.cell (p := ⟨g, 0, none⟩) y2).trans z0⟩), rA := fun h => (by rw [show don dd _ 11 = dd 11 from rfl, h13] at h; cases h), vF := hJ.vF }
          · refine ⟨fun s hs => by cases hs <;> decide, ?_⟩
            rintro dd val W hJ hd hdep hcl K hK
            rw [if_pos (by rfl)]
            dsimp only [putF, List.foldl, Act.put] at hK ⊢
            simp only [List.setIfInBounds_toArray, List.set_cons_zero, List.set_cons_succ] at hK ⊢
            have h13 : dd 11 = false := by
              cases h : dd 11 with
              | false => rfl
              | true =>
                have c11 := h
                have c10 := hcl 11 _ rfl c11 ⟨10, .data⟩ (by simp) rfl
                rw [hd] at c10; cases c10
            have e40 := hJ.v40 (hdep ⟨9, .data⟩ (by simp) rfl)
            simp only [e40] at hK ⊢
            go_simp
            have hb7 : Below W.heap.size W (W.alloc (.cells #[.string e] 9)) := (Below.refl _ _).alloc (Nat.le_refl _) _
            have hb13 := hJ.fb h13
            exact hK.out _ _ { fb := fun _ => hb13.trans (hb7.mono hb13.size), fb2 := hJ.fb2.trans (hb7.mono (by have := hb13.size; omega)), nF := hJ.nF, v31 := hJ.v31, v32 := hJ.v32, v33 := hJ.v33, v34 := hJ.v34, v35 := hJ.v35, v36 := hJ.v36, v37 := hJ.v37, v38 := hJ.v38, v40 := hJ.v40, r39 := fun h1 h13 => (let ⟨g, y1, y2, z0, z1⟩ := hJ.r39 h1 h13; ⟨g, y1, Nat.lt_of_lt_of_le y2 hb7.size, (hb7.cell (p := ⟨g, 0, none⟩) y2).trans z0, (hb7.cell (p := ⟨g, 1, none⟩) y2).trans z1⟩), r41 := fun _ _ => ⟨W.heap.size, rfl, by simp, by rw [World.cell?_alloc_new]; rfl⟩, rA := fun h => (by rw [show don dd _ 11 = dd 11 from rfl, h13] at h; cases h), vF := hJ.vF }
          · refine ⟨fun s hs => by cases hs <;> decide, ?_⟩
            rintro dd val W hJ hd hdep hcl K hK
            rw [if_pos (by rfl)]
            dsimp only [putF, List.foldl, Act.put] at hK ⊢
            simp only [List.setIfInBounds_toArray, List.set_cons_zero, List.set_cons_succ] at hK ⊢
            have e31 := hJ.v31 (hdep ⟨0, .data⟩ (by simp) rfl)
            obtain ⟨g24, y1, y2, y3⟩ := hJ.r41 (hdep ⟨10, .data⟩ (by simp) rfl) hd
            have hb13 := hJ.fb hd
            simp only [e31, y1] at hK ⊢
            refine wp_apps RStr.ok W (.tmp 31) (.tmp 41) 55 rfl bi 9 (.string ⟨#[]⟩) 16 Tryz.underlying55 info_str rfl (by decide) No (.slice A6 out.length c6) out rfl (HOWN2.out.below RStr.ok (no_lt _) hb13) (.slice (some ⟨g24, 0, none⟩) 1 1) [e.data.toList] rfl (.inr ⟨⟨g24, 0, none⟩, 1, 1, rfl, rfl, fun i y hy => ⟨strC e.data.toList, by
              match i, hy with
              | 0, hy => simp at hy; subst hy; rfl, fun j u hu => by
              match i, hy, j, hu with
              | 0, _, 0, hu =>
                simp [strC] at hu
                subst hu
                simpa [Addr.add_lit] using y3⟩⟩) (no_lt _) (by simp; omega) (by simp [maxLen]; omega) (by have := hb13.size; omega) ?_
            intro v7 w7 hown7 hgr7 hb7 hat7
            exact hK.out _ _ { fb := fun h => (by cases h), fb2 := hJ.fb2.trans hb7, nF := hJ.nF, v31 := hJ.v31, v32 := hJ.v32, v33 := hJ.v33, v34 := hJ.v34, v35 := hJ.v35, v36 := hJ.v36, v37 := hJ.v37, v38 := hJ.v38, v40 := hJ.v40, r39 := fun _ h => (by cases h), r41 := fun _ h => (by cases h), rA := fun _ => hown7, vF := fun h => (by have c13 := hcl 12 _ rfl h ⟨11, .data⟩ (by simp) rfl; rw [hd] at c13; cases c13) }
          · refine ⟨fun s hs => by cases hs <;> decide, ?_⟩
            rintro dd val W hJ hd hdep hcl K hK
            rw [if_pos (by rfl)]
            dsimp only [putF, List.foldl, Act.put] at hK ⊢
            simp only [List.setIfInBounds_toArray, List.set_cons_zero, List.set_cons_succ] at hK ⊢
            go_simp
            exact hK.out _ _ { fb := hJ.fb, fb2 := hJ.fb2, nF := fun h => (by cases h), v31 := hJ.v31, v32 := hJ.v32, v33 := hJ.v33, v34 := hJ.v34, v35 := hJ.v35, v36 := hJ.v36, v37 := hJ.v37, v38 := hJ.v38, v40 := hJ.v40, r39 := hJ.r39, r41 := hJ.r41, rA := hJ.rA, vF := fun _ => rfl }
          · intro dd val W hall hJ
            have hown := hJ.rA (hall 11 (by decide))
            have e3 := hJ.vF (hall 12 (by decide))
            have hbw := hJ.fb2
            obtain ⟨v8, hv8⟩ : ∃ v, val 42 = v := ⟨_, rfl⟩
            rw [hv8] at hown e3
            dsimp only [putF, List.foldl, Act.put]
            simp only [List.setIfInBounds_toArray, List.set_cons_zero, List.set_cons_succ, hv8, e3]
            have HF := hide hown
            have HBW := hide (HB2.out.trans (hbw.mono hbs1))
            have hzW := hbw.size
            clear hown hbw
            go_wp2_with fail
            go_roundw
            case rel => exact ⟨j + 1, out ++ [e.data.toList], by omega, by go_num, by simp [HOL.out], HF.out, HBW.out, by omega, hide (by rw [HSTEP.out, ← HOUT.out])⟩
            case measure => simp [intOf]; omega
        · have hout2 : out = r.map keyA := by
            have := HOUT.out
            rwa [List.take_of_length_le (by omega)] at this
          have hne : out ≠ [] := by
            intro e
            rw [hout2] at e
            exact HOKR.out.1 (by rw [List.map_eq_nil_iff.1 e]; rfl)
          have hol2 : out.length = r.length := by omega
          obtain ⟨g, cap, ys0, hv, hbg, hgl, -⟩ := hown2.at_ (i := 0) (List.length_pos_iff.2 hne)
          rw [hol2] at hv
          subst hv
          have HSRT := hide (sort_any out hne (.slice (some ⟨g, 0, none⟩) r.length cap) 9 bi wr hown2 (by omega))
          have HORD := hide (show ordF out = keyR r by rw [hout2]; rfl)
          clear hout2 hne hol2 hol hb2 hown2
          obtain ⟨wi, rfl⟩ : ∃ wo : World, wo = wr := ⟨_, rfl⟩
          go_wp2_with fail
          refine HSRT.out.mono ?_
          rintro e w2 ⟨rfl, hsl2, hb2s⟩
          rw [HORD.out] at hsl2
          have hz2 := hb2s.size
          obtain ⟨q, hq⟩ : ∃ q, keyR r = q := ⟨_, rfl⟩
          have hql : q.length = r.length := by rw [← hq, keyR_len]
          rw [hq] at hsl2
          have HQ := hide hq
          obtain ⟨S', hS'⟩ : ∃ S' : Nat → Prop, S' = fun j => bi ≤ j ∧ j < w2.heap.size := ⟨_, rfl⟩
          have hS2 : ∀ j, S' j → bi ≤ j ∧ j < w2.heap.size := fun j hj => by rw [hS'] at hj; exact hj
          have hSg : S' g := by rw [hS']; exact ⟨hbg, by omega⟩
          have hb02 : Below w0.heap.size w0 w2 := HB2a.out.trans (hb2s.mono (by rw [HBI.out]; exact Nat.le_refl _))
          have HSLQ := hide (show Sl RStr 1 w2 S' q [.slice (some ⟨g, 0, none⟩) r.length cap] from Sl.str_at hsl2 hSg rfl)
          have hnoS : ∀ g9, (Value.slice A5 ps.length c5).ownBlock = some g9 → ¬ S' g9 := fun g9 hg9 hh => by
            have := (HOWN.out.lt g9 hg9).2
            have := (hS2 g9 hh).1
            have := HBI.out
            omega
          have HNOS := hide hnoS
          have HOP := hide ((HOWN.out.below RAny.ok (no_lt _) hb02).more RAny.ok (fun _ h => h.elim) hnoS)
          have HS2 := hide hS2
          have HSG := hide hSg
          have HGA := hide (show ∀ W : World, w2.heap.size ≤ W.heap.size → ∀ o k, S' k → k < (W.alloc o).heap.size from fun W hW o k hk => by have := (hS2 k hk).2; simp; omega)
          have HB02 := hide (HB.out.trans (hb02.mono HB.out.size))
          have hzz := HB02.out.size
          have hbz2 : base ≤ w2.heap.size := by have := hb02.size; omega
          clear hS' hS2 hnoS hb02 hsl2 hb2s hq hSg
          go_wp2_with (at_builtin; refine wpList_app RAny.ok _ rfl (.tmp 46) (.tmp 50) 104 rfl base 20 .nilIface 16 Tryz.underlying104 info_any rfl (by decide) S' (.slice A5 ps.length c5) ps rfl (HOP.out.alloc RAny.ok (fun k hk => (HS2.out k hk).2) _) ⟨_, 0, none⟩ 1 1 [.inl r.length] rfl rfl (news_any _ _ _ (.inl r.length) _ rfl) (HGA.out w2 (Nat.le_refl _) _) (by simp; omega) (by simp [maxLen]; omega) (by simp; omega) ?_; intro v6 w6 hown6 hg6 hb6 hat6; have hsz6 := hb6.size; simp at hsz6; have hkeep := (hg6.block g (HGA.out w2 (Nat.le_refl _) _ g HSG.out) (fun e => HNOS.out g e.symm HSG.out)).trans (Below.heap_alloc _ _ g (HS2.out g HSG.out).2); have HB6 := hide ((HB02.out.alloc HB02.out.size _).trans (hb6.mono hbw)); have HSL6 := hide (Sl.str_at HSLQ.out HSG.out hkeep); have HO6 := hide hown6; clear hkeep hb6 hg6 hat6 hown6)
          go_loopw [3, 54] (fun v i wi => ∃ (m : Nat) (ps3 : List Part), m ≤ r.length ∧ i = .int .i64 m ∧ ps3.length = ps.length + 1 + m ∧ Own RAny 1 20 wi base S' v ps3 ∧ Sl RStr 1 wi S' q [.slice (some ⟨g, 0, none⟩) r.length cap] ∧ Below w.heap.size w wi ∧ w2.heap.size ≤ wi.heap.size ∧ Hid (ps3 = ps ++ .inl r.length :: (q.take m).map .inr)) (fun _ i _ => r.length - (intOf i).toNat)
          case atStart => exact ⟨0, _, by omega, rfl, by simp, HO6.out, HSL6.out, HB6.out, by omega, hide (by simp)⟩
          case round =>
            obtain ⟨m, ps3, hm, rfl, hpl, hown3, hsl3, hb3, hz3, HP3⟩ := hrel
            have HB3 := hide hb3
            have HO3 := hide hown3
            have HSL3 := hide hsl3
            have HPL := hide hpl
            by_cases hml : m < r.length
            · have hmq : m < q.length := by omega
              obtain ⟨b9, off9, xs9, hA9, hbS9, hr9, hcell9⟩ := hsl3.at_ hmq
              cases hA9
              have hr9' : xs9 = strC q[m] := hr9
              subst hr9'
              obtain ⟨x, hx⟩ : ∃ x : ByteArray, x = ⟨(q[m]).toArray⟩ := ⟨_, rfl⟩
              have p9 : wr.cell? ⟨g, m, none⟩ = some (.string x) := by
                have := hcell9 0 _ rfl
                rw [Nat.mul_one, Nat.add_zero, Nat.zero_add, ← hx] at this
                exact this
              have HX := hide (show (q.take (m + 1)).map (Sum.inr : List UInt8 → Part) = (q.take m).map .inr ++ [.inr x.data.toList] from map_step Sum.inr q m hmq (by rw [hx]))
              obtain ⟨A8, c8, hv8⟩ := (hown3.sl RAny.ok).shape
              subst hv8
              have hpl9 : ps3.length ≤ 46 := by omega
              have HNO3 := hide (show ∀ g9, (Value.slice A8 ps3.length c8).ownBlock = some g9 → ¬ S' g9 by obtain ⟨_, _, h2, _⟩ := hown3; exact h2)
              clear hcell9 hr9 hbS9 hx hown3 hsl3 hb3 hpl
              obtain ⟨w3, rfl⟩ : ∃ wo : World, wo = wr := ⟨_, rfl⟩
              go_wp2_with (at_builtin; refine wpList_app RAny.ok _ rfl (.tmp 58) (.tmp 61) 104 rfl base 20 .nilIface 16 Tryz.underlying104 info_any rfl (by decide) S' (.slice A8 ps3.length c8) ps3 rfl (HO3.out.alloc RAny.ok (fun k hk => Nat.lt_of_lt_of_le (HS2.out k hk).2 hz3) _) ⟨_, 0, none⟩ 1 1 [.inr x.data.toList] rfl rfl (news_any _ _ _ (.inr x.data.toList) _ rfl) (HGA.out w3 hz3 _) (by simp; omega) (by simp [maxLen]; omega) (by simp; omega) ?_; intro v6 w9 hown9 hg9 hb9 hat9; have hsz9 := hb9.size; simp at hsz9)
              have hkeep := (hg9.block g (HGA.out w3 hz3 _ g HSG.out) (fun e => HNO3.out g e.symm HSG.out)).trans (Below.heap_alloc _ _ g (Nat.lt_of_lt_of_le (HS2.out g HSG.out).2 hz3))
              go_roundw
              case rel => exact ⟨m + 1, ps3 ++ [.inr x.data.toList], by omega, by go_num, by rw [List.length_append, HPL.out]; rfl, hown9, Sl.str_at HSL3.out HSG.out hkeep, (HB3.out.alloc HB3.out.size _).trans (hb9.mono hbw), by omega, hide (by rw [HX.out, HP3.out, List.append_assoc, List.cons_append])⟩
              case measure => simp [intOf]; omega
            · have hps3 : ps3 = ps ++ keyPt r := by
                have := HP3.out
                rw [List.take_of_length_le (by omega), ← HQ.out] at this
                exact this
              have HP9 := hide hps3
              clear hown3 hsl3 hb3 hpl hps3
              go_wp2_with fail
              go_roundw
              case rel => exact ⟨k + 1, ps3, by omega, by go_num, by have := HPL.out; omega, HO3.out.no, HB3.out, by omega, hide (by rw [HP9.out, HSTEPK.out, HPS.out, List.cons_append])⟩
              case measure => simp [intOf]; omega
    · have hkl : k = n.length := by omega
      have hpk : ps = keyParts n := by
        have := HPS.out
        rwa [List.take_of_length_le (by omega)] at this
      have hsl := (Sl.ok RAny.ok).mono (hown.sl RAny.ok) (S' := Lt wr.heap.size) (fun _ _ => rfl) (fun j hj => by rcases hj with hj | hj; exact hj.elim; exact hj.2)
      obtain ⟨A3, c3, hv⟩ := hsl.shape
      subst hv
      have HJ := hide (join_any ps (hpk ▸ keyParts_ok hn8 HOK.out) (by omega) A3 ps.length c3 z (by rw [hpk, keyParts_flat]; exact HZ.out) wr (HTB.out.below HB.out) hsl)
      clear hpk hsl hown hb hkl
      go_wp2_with fail
      refine HJ.out.mono ?_
      rintro e w3 ⟨rfl, hb3⟩
      have HB3 := hide (HB.out.trans (hb3.mono HB.out.size))
      clear hb3
      go_wp2_with fail
      go_ret
      exact ⟨rfl, HB3.out⟩
end Go.Proofs.YtahamclodagihaaGreatDoor
