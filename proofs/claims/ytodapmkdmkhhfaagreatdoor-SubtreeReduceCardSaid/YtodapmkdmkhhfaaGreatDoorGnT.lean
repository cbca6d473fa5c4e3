/- The function Reduce of package subtree. -/
import Derived.Test.YtodapmkdmkhhfaaGreatDoorGn4
namespace Go.Proofs.YtodapmkdmkhhfaaGreatDoor
open Go.RowKit

def RedPost (st : List Sub) (w : World) (e : Ending) (w' : World) : Prop :=
  ∃ (L P X : Option Addr) (cl cp cx : Nat), e = .returned (.agg #[.slice L (redLim st).length cl, .slice P (redPer st (redLim st)).length cp, .slice X (redEx st).length cx]) ∧ Sl RInt 1 w' (Btw w.heap.size w'.heap.size) (redLim st) [.slice L (redLim st).length cl] ∧
    Sl RGen 3 w' (Btw w.heap.size w'.heap.size) (redPer st (redLim st)) [.slice P (redPer st (redLim st)).length cp] ∧ Sl RGen 3 w' (Btw w.heap.size w'.heap.size) (redEx st) [.slice X (redEx st).length cx] ∧ Below w.heap.size w w'

theorem int_sl_hm (A : Option Addr) (n c v : Nat) (hv : v ≤ c) (W : World) : (Instr.slice 33 (.slice A n c) none (some (.int .i64 (v : Int))) (some (.int .i64 (v : Int)))).run Tryz.prog W = .ok (.slice A v v) W := by
  have ht : Tryz.prog.underlying 33 = some (.slice (Tryz.prog.elem 33)) := by kernel_rfl
  refine (run_slice_hm (P := Tryz.prog) (w := W) 33 A n c ht .i64 .i64 (v : Int) (v : Int) (by omega) (by omega) (by omega)).trans ?_
  have hs : (sizeOf (Tryz.prog.elem 33)).run Tryz.prog W = .ok 1 W := by kernel_rfl
  rw [hs]
  cases A <;> simp [Result.andThen, sliced, Addr.add]
theorem int_sl_l (A : Option Addr) (n c v : Nat) (hv : v ≤ n) (W : World) : (Instr.slice 33 (.slice A n c) (some (.int .i64 (v : Int))) none none).run Tryz.prog W = .ok (.slice (if c = v then A else A.map (·.add (v * 1))) (n - v) (c - v)) W := by
  have ht : Tryz.prog.underlying 33 = some (.slice (Tryz.prog.elem 33)) := by kernel_rfl
  refine (run_slice_l (P := Tryz.prog) (w := W) 33 A n c ht .i64 (v : Int) (by omega) (by omega)).trans ?_
  have hs : (sizeOf (Tryz.prog.elem 33)).run Tryz.prog W = .ok 1 W := by kernel_rfl
  rw [hs]
  simp [Result.andThen, sliced]

def perK (st : List Sub) (l : List Gen) (k : Int) : List Gen := st.foldl (fun l s => s.1.foldl (perStep st k) l) l
theorem RB.store3 {g : Nat} {u v x : Value} {W : World} (h : RB g u v x W) (a b d : Value) : RB g a b d (((W.setCell ⟨g, 0, none⟩ a).setCell ⟨g, 1, none⟩ b).setCell ⟨g, 2, none⟩ d) := by
  unfold RB at *
  simp [World.setCell, Array.getElem?_modify, h]
theorem set3_off {g k : Nat} {W : World} (a b d : Value) (hk : k ≠ g) : (((W.setCell ⟨g, 0, none⟩ a).setCell ⟨g, 1, none⟩ b).setCell ⟨g, 2, none⟩ d).heap[k]? = W.heap[k]? :=
  (Below.heap_setCell _ ⟨g, 2, none⟩ d k hk).trans ((Below.heap_setCell _ ⟨g, 1, none⟩ b k hk).trans (Below.heap_setCell _ ⟨g, 0, none⟩ a k hk))
theorem GoodSub.bs {st : List Sub} (h : GoodSt st) : ∀ s ∈ st, s.1.length ≤ 4 ∧ GoodBs s.1 := fun s hs => ⟨(h.2 s hs).1, (h.2 s hs).2.2.1⟩


set_option maxRecDepth 100000 in
set_option maxHeartbeats 8000000 in
theorem Reduce_any (st : List Sub) (A : Option Addr) (c : Nat) (w : World) (hmx : Mx w) (hst : GoodSt st) (h0 : Sl RSub 2 w (Lt w.heap.size) st [.slice A st.length c]) :
    Calls Tryz.prog 25 #[.agg #[.slice A st.length c]] w (RedPost st w) := by
  have HMX := hide hmx
  have K := hide h0
  have HST := hide hst
  have hst4 : st.length ≤ 4 := hst.1
  obtain ⟨wa, hwa⟩ : ∃ wa, wa = ((w.alloc (.cells #[.slice A st.length c] 24)).alloc (.cells #[.slice none 0 0, .slice none 0 0, .slice none 0 0] 53)).alloc (.cells #[.slice none 0 0, .slice none 0 0, .slice none 0 0] 53) := ⟨_, rfl⟩
  have hz1 : (w.alloc (.cells #[.slice A st.length c] 24)).heap.size = w.heap.size + 1 := by simp
  have hz2 : ((w.alloc (.cells #[.slice A st.length c] 24)).alloc (.cells #[.slice none 0 0, .slice none 0 0, .slice none 0 0] 53)).heap.size = w.heap.size + 2 := by simp
  have ht1 : TB w.heap.size (.slice A st.length c) wa := by
    unfold TB
    rw [hwa, Below.heap_alloc _ _ _ (by simp; omega), Below.heap_alloc _ _ _ (by simp)]
    exact heap_alloc_new w _
  have hr2 : RB (w.heap.size + 1) (.slice none 0 0) (.slice none 0 0) (.slice none 0 0) wa := by
    unfold RB
    rw [hwa, Below.heap_alloc _ _ _ (by simp), ← hz1]
    exact heap_alloc_new _ _
  have hr3 : RB (w.heap.size + 2) (.slice none 0 0) (.slice none 0 0) (.slice none 0 0) wa := by
    unfold RB
    rw [hwa, ← hz2]
    exact heap_alloc_new _ _
  have hba : Below w.heap.size w wa := by rw [hwa]; exact (((Below.refl _ _).alloc (Nat.le_refl _) _).alloc (by simp) _).alloc (by simp; omega) _
  have hza : wa.heap.size = w.heap.size + 3 := by rw [hwa]; simp
  obtain ⟨g1, hg1⟩ : ∃ g, g = w.heap.size := ⟨_, rfl⟩
  obtain ⟨g2, hg2⟩ : ∃ g, g = w.heap.size + 1 := ⟨_, rfl⟩
  obtain ⟨g3, hg3⟩ : ∃ g, g = w.heap.size + 2 := ⟨_, rfl⟩
  obtain ⟨base, hbs⟩ : ∃ b, b = w.heap.size + 3 := ⟨_, rfl⟩
  rw [← hg1] at ht1
  rw [← hg2] at hr2
  rw [← hg3] at hr3
  have hwg3 : w.heap.size ≤ g3 := by omega
  have h13 : g1 ≠ g3 := by omega
  have h23 : g2 ≠ g3 := by omega
  have hwg2 : w.heap.size ≤ g2 := by omega
  have h1b : g1 < base := by omega
  have h2b : g2 < base := by omega
  have h3b : g3 < base := by omega
  have hwb : w.heap.size ≤ base := by omega
  have HRI := hide (show RI w base g1 g2 g3 (.slice A st.length c) none none 0 0 No (redLim (st.take 0)) (redEx (st.take 0)) wa from
    ⟨hba, by omega, ht1, hr2, hr3, Own.nil _ _ _ _ _ _, Own.nil _ _ _ _ _ _, fun b h => h.elim, fun b h => by simp [Value.ownBlock] at h⟩)
  obtain ⟨y1, -⟩ := ht1.facts
  have HG1 := hide hg1
  have HG2 := hide hg2
  have HG3 := hide hg3
  have HBS := hide hbs
  have HWA := hide hwa
  clear hmx h0 hst hwa hz1 hz2 ht1 hr2 hr3 hba hza hg1 hg2 hg3 hbs
  go_enter Tryz.func25, Tryz.ntmps25
  go_upto_region 2 with (fail)
  rw [← HWA.out, ← HG3.out, ← HG2.out, ← HG1.out]
  go_wp2_with fail
  go_loopw [20] (fun i wr => ∃ (a : Nat) (L X : Option Addr) (cl cx : Nat) (S : Nat → Prop), a ≤ st.length ∧ i = .int .i64 a ∧ RI w base g1 g2 g3 (.slice A st.length c) L X cl cx S (redLim (st.take a)) (redEx (st.take a)) wr) (fun i _ => st.length - (intOf i).toNat)
  case atStart => exact ⟨0, none, none, 0, 0, No, Nat.zero_le _, rfl, HRI.out⟩
  case round =>
    obtain ⟨a, L0, X, cl0, cx, S, ha, rfl, hri⟩ := hrel
    by_cases hlt : a < st.length
    · obtain ⟨b2, o2, P1, c1, P2, c2, hA, hbS, d0, d1, hslp, hslx⟩ := K.out.subAt hlt
      subst hA
      have hbS' : b2 < w.heap.size := hbS
      have hlt' : (a : Int) < (st.length : Int) := by omega
      have hgs := HST.out.2 st[a] (List.getElem_mem hlt)
      obtain ⟨p, hp⟩ : ∃ p, st[a].1 = p := ⟨_, rfl⟩
      obtain ⟨x, hx⟩ : ∃ x, st[a].2 = x := ⟨_, rfl⟩
      have HNX := hide (show st.take (a + 1) = st.take a ++ [(p, x)] by rw [← hp, ← hx]; exact List.take_succ_eq_append_getElem hlt)
      have hgsp : GoodSub (p, x) := by rw [← hp, ← hx]; exact hgs
      have HGSP := hide hgsp
      have hp4 : p.length ≤ 4 := hgsp.1
      have hx4 : x.length ≤ 4 := hgsp.2.1
      rw [hp] at d0 hslp
      rw [hx] at d1 hslx
      obtain ⟨lim0, hlim0⟩ : ∃ l, redLim (st.take a) = l := ⟨_, rfl⟩
      obtain ⟨ex0, hex0⟩ : ∃ l, redEx (st.take a) = l := ⟨_, rfl⟩
      rw [hlim0, hex0] at hri
      have f0 := (hri.1.cell (p := ⟨b2, o2 + a * 2, none⟩) hbS').trans d0
      have f1 := (hri.1.cell (p := ⟨b2, o2 + a * 2 + 1, none⟩) hbS').trans d1
      have KP := hide hslp
      have KX := hide hslx
      have HLIM0 := hide hlim0
      have HEX0 := hide hex0
      obtain ⟨b5, hb5⟩ : ∃ b, b = wr.heap.size := ⟨_, rfl⟩
      have hbc : Below wr.heap.size wr (wr.alloc (.cells #[.slice P1 p.length c1, .slice P2 x.length c2] 27)) := (Below.refl _ _).alloc (Nat.le_refl _) _
      have HRI := hide (hri.below hbc)
      have HSB := hide (show SB b5 (.slice P1 p.length c1) (.slice P2 x.length c2) (wr.alloc (.cells #[.slice P1 p.length c1, .slice P2 x.length c2] 27)) by rw [hb5]; exact heap_alloc_new wr _)
      have HB5 := hide hb5
      have hb5b : base ≤ b5 := by have := hri.2.1; omega
      obtain ⟨wq, hwq⟩ : ∃ wq, wq = wr.alloc (.cells #[.slice P1 p.length c1, .slice P2 x.length c2] 27) := ⟨_, rfl⟩
      rw [← hwq] at HRI HSB
      have HWQ := hide hwq
      clear hri d0 d1 hslp hslx hp hx hgs hgsp hlim0 hex0 hbc hb5 hwq y1
      go_upto_region 5 with (fail)
      rw [← HWQ.out, ← HB5.out]
      obtain ⟨y0, -⟩ := HSB.out.facts
      clear f0 f1
      go_wp2_with fail
      go_loopw [27] (fun i wi => ∃ (j : Nat) (L : Option Addr) (cl : Nat), j ≤ p.length ∧ i = .int .i64 j ∧ RI w base g1 g2 g3 (.slice (some ⟨b2, o2, none⟩) st.length c) L X cl cx S ((p.take j).foldl limStep lim0) ex0 wi ∧ SB b5 (.slice P1 p.length c1) (.slice P2 x.length c2) wi) (fun i _ => p.length - (intOf i).toNat)
      case atStart => exact ⟨0, L0, cl0, Nat.zero_le _, rfl, HRI.out, HSB.out⟩
      case round =>
        obtain ⟨j, L, cl, hj, rfl, hri, hsb⟩ := hrel
        obtain ⟨lim, hlim⟩ : ∃ l, (p.take j).foldl limStep lim0 = l := ⟨_, rfl⟩
        rw [hlim] at hri
        have HLIM := hide hlim
        by_cases hjl : j < p.length
        · obtain ⟨b6, o6, t6, A6, c6, hP, hbS6, ht6, d0, d1, d2, hsl6⟩ := KP.out.genAt hjl
          subst hP
          have hbS6' : b6 < w.heap.size := hbS6
          have hjl' : (j : Int) < (p.length : Int) := by omega
          obtain ⟨kb, hkb⟩ : ∃ kb, p[j].1 = kb := ⟨_, rfl⟩
          obtain ⟨nb, hnb⟩ : ∃ nb, p[j].2.2 = nb := ⟨_, rfl⟩
          have HSTEP := hide (show (p.take (j + 1)).foldl limStep lim0 = if knownK kb = true then insK lim kb else lim by
            rw [List.take_succ_eq_append_getElem hjl, List.foldl_append, hlim, ← hkb]; rfl)
          rw [hkb] at d0
          rw [hnb] at d2 hsl6
          have f0 := (hri.1.cell (p := ⟨b6, o6 + j * 3, none⟩) hbS6').trans d0
          have f1 := (hri.1.cell (p := ⟨b6, o6 + j * 3 + 1, none⟩) hbS6').trans d1
          have f2 := (hri.1.cell (p := ⟨b6, o6 + j * 3 + 2, none⟩) hbS6').trans d2
          obtain ⟨b7, hb7⟩ : ∃ b, b = wr.heap.size := ⟨_, rfl⟩
          have hbc : Below wr.heap.size wr (wr.alloc (.cells #[.int .i64 kb, .string t6, .slice A6 nb.length c6] 32)) := (Below.refl _ _).alloc (Nat.le_refl _) _
          have HRI := hide (hri.below hbc)
          have HSB := hide (hsb.base hbc hsb.lt)
          have HGB := hide (show GB b7 kb t6 (.slice A6 nb.length c6) (wr.alloc (.cells #[.int .i64 kb, .string t6, .slice A6 nb.length c6] 32)) by rw [hb7]; exact heap_alloc_new wr _)
          have HB7 := hide hb7
          obtain ⟨wz, hwz⟩ : ∃ wz, wz = wr.alloc (.cells #[.int .i64 kb, .string t6, .slice A6 nb.length c6] 32) := ⟨_, rfl⟩
          rw [← hwz] at HRI HSB HGB
          have HWZ := hide hwz
          have hlen : lim.length ≤ 1000 := by
            have h1 := limFold_len (p.take j) lim0
            have h2 := limAll_len (st.take a) [] (fun s hs => (HST.out.2 s (List.mem_of_mem_take hs)).1)
            have h3 : lim0.length ≤ 0 + 4 * (st.take a).length := by rw [← HLIM0.out]; exact h2
            rw [hlim] at h1
            simp only [List.length_take] at h1 h3
            omega
          clear hri hsb d0 d1 d2 hsl6 hkb hnb hbc hb7 hwz ht6 hlim
          go_upto_region 8 with (fail)
          rw [← HWZ.out, ← HB7.out]
          obtain ⟨z0, -⟩ := HGB.out.facts
          clear f0 f1 f2
          have KN := hide (known_any kb)
          obtain ⟨kn, hkn⟩ : ∃ q, knownK kb = q := ⟨_, rfl⟩
          rw [hkn] at KN HSTEP
          clear hkn
          cases kn
          · have HSTEP := hide (show (p.take (j + 1)).foldl limStep lim0 = lim from HSTEP.out.trans (by simp))
            go_wp2_with fail
            refine (KN.out _).mono ?_
            rintro e w5 ⟨rfl, rfl⟩
            go_wp2_with fail
            go_roundw
            case rel => exact ⟨j + 1, L, cl, by omega, by go_num, by rw [HSTEP.out]; exact HRI.out, HSB.out⟩
            case measure => simp [intOf]; omega
          · have HSTEP := hide (show (p.take (j + 1)).foldl limStep lim0 = insK lim kb from HSTEP.out.trans (by simp))
            go_wp2_with fail
            refine (KN.out _).mono ?_
            rintro e w5 ⟨rfl, rfl⟩
            go_wp2_with fail
            go_loopw [8] (fun i wi => ∃ j : Nat, j ≤ posK lim kb ∧ i = .int .i64 j ∧ Below wz.heap.size wz wi) (fun i _ => lim.length - (intOf i).toNat)
            case atStart => exact ⟨0, Nat.zero_le _, rfl, Below.refl _ _⟩
            case round =>
              obtain ⟨r, hr, rfl, hbi⟩ := hrel
              have HRW := hide (HRI.out.below hbi)
              have HGW := hide (HGB.out.below hbi)
              have HSW := hide (HSB.out.base hbi HSB.out.lt)
              obtain ⟨x0, -, x2, xf0, -, xf2⟩ := HRW.out.2.2.2.2.1.facts
              obtain ⟨k0, -⟩ := HGW.out.facts
              have hlr := posK_le lim kb
              have hsl := HRW.out.2.2.2.2.2.1.sl RInt.ok
              by_cases hrp : r < posK lim kb
              · obtain ⟨hrl, hry⟩ := posK_lt lim kb r hrp
                obtain ⟨bL, oL, hL, -, cL⟩ := hsl.intAt hrl
                subst hL
                obtain ⟨y, hy⟩ : ∃ y, lim[r] = y := ⟨_, rfl⟩
                rw [hy] at cL hry
                have hrl' : (r : Int) < (lim.length : Int) := by omega
                clear hy hsl
                go_upto_region 10 with (fail)
                go_quiet (fail)
                go_wp2_with fail
                go_roundw
                case rel => exact ⟨r + 1, by omega, by go_num, below_drewN hbi _⟩
                case measure => simp [intOf]; omega
              · obtain ⟨pk, hpk⟩ : ∃ pk, posK lim kb = pk := ⟨_, rfl⟩
                have hrk : r = pk := by omega
                subst hrk
                have HPK := hide hpk
                have hle : r ≤ lim.length := by omega
                have hbz : Below wz.heap.size wz wr := hbi
                clear hpk hr hrp hlr
                by_cases hrl : r < lim.length
                · have hyk := posK_at lim kb (by rw [HPK.out]; exact hrl)
                  have hgd : lim.getD (posK lim kb) 0 = lim[r] := by rw [HPK.out, List.getD_eq_getElem?_getD, List.getElem?_eq_getElem hrl]; rfl
                  obtain ⟨bL, oL, hL, -, cL⟩ := hsl.intAt hrl
                  subst hL
                  have hyk' : kb ≤ lim[r] := by simpa [HPK.out] using hyk
                  obtain ⟨y, hy⟩ : ∃ y, lim[r] = y := ⟨_, rfl⟩
                  rw [hy] at cL hyk' hgd
                  have HGD := hide hgd
                  have t1 : (r : Int) < (lim.length : Int) := by omega
                  have t2 : decide (y < kb) = false := by simp; omega
                  have t3 : ((r : Int) == (lim.length : Int)) = false := by rw [beq_eq_false_iff_ne]; omega
                  clear hy hsl hyk hyk' hgd
                  go_upto_region 10 with (fail)
                  go_quiet (fail)
                  obtain ⟨wu, hwp⟩ : ∃ ww : World, ww = wr.drewN nq := ⟨_, rfl⟩
                  have HRW := hide (show RI w base g1 g2 g3 (.slice (some ⟨b2, o2, none⟩) st.length c) (some ⟨bL, oL, none⟩) X cl cx S lim ex0 wu by rw [hwp]; exact HRW.out.below (below_drewN (Below.refl _ _) _))
                  have HGW := hide (show GB b7 kb t6 (.slice A6 nb.length c6) wu by rw [hwp]; exact HGW.out)
                  have HSW := hide (show SB b5 (.slice (some ⟨b6, o6, none⟩) p.length c1) (.slice P2 x.length c2) wu by rw [hwp]; exact HSW.out)
                  rw [← hwp]
                  obtain ⟨x0, -, x2, xf0, -, xf2⟩ := HRW.out.2.2.2.2.1.facts
                  obtain ⟨k0, -⟩ := HGW.out.facts
                  have cL : wu.cell? ⟨bL, oL + r, none⟩ = some (.int .i64 y) := by rw [hwp]; exact cL
                  have hbz : Below wz.heap.size wz wu := by rw [hwp]; exact below_drewN hbz _
                  clear hwp t2
                  by_cases hyk : y = kb
                  · have hyk' := hyk.symm
                    subst hyk'
                    clear hyk
                    have t4 : (kb != kb) = false := by simp
                    have HOLD := hide (show insK lim kb = lim from insK_old (fun h => by
                      rcases h with h | h
                      · rw [HPK.out] at h; omega
                      · exact h HGD.out))
                    go_upto_region 12 with (fail)
                    go_quiet (fail)
                    obtain ⟨wi, hwp⟩ : ∃ ww : World, ww = wu.drewN nq := ⟨_, rfl⟩
                    have HRW := hide (show RI w base g1 g2 g3 (.slice (some ⟨b2, o2, none⟩) st.length c) (some ⟨bL, oL, none⟩) X cl cx S lim ex0 wi by rw [hwp]; exact HRW.out.below (below_drewN (Below.refl _ _) _))
                    have HGW := hide (show GB b7 kb t6 (.slice A6 nb.length c6) wi by rw [hwp]; exact HGW.out)
                    have HSW := hide (show SB b5 (.slice (some ⟨b6, o6, none⟩) p.length c1) (.slice P2 x.length c2) wi by rw [hwp]; exact HSW.out)
                    rw [← hwp]
                    obtain ⟨x0, -, x2, xf0, -, xf2⟩ := HRW.out.2.2.2.2.1.facts
                    obtain ⟨k0, -⟩ := HGW.out.facts
                    clear hwp
                    go_wp2_with fail
                    go_roundw
                    case rel => exact ⟨j + 1, some ⟨bL, oL, none⟩, cl, by omega, by go_num, by rw [HSTEP.out, HOLD.out]; exact HRW.out, HSW.out⟩
                    case measure => simp [intOf]; omega
                  · have t4 : (y != kb) = true := by rw [bne_iff_ne]; exact hyk
                    have HNEW := hide (show insK lim kb = lim.take r ++ kb :: lim.drop r from HPK.out ▸ insK_new (.inr (by rw [HGD.out]; exact hyk)))
                    clear hyk
                    go_upto_region 12 with (fail)
                    go_quiet (fail)
                    obtain ⟨wi, hwp⟩ : ∃ ww : World, ww = wu.drewN nq := ⟨_, rfl⟩
                    have HRW := hide (show RI w base g1 g2 g3 (.slice (some ⟨b2, o2, none⟩) st.length c) (some ⟨bL, oL, none⟩) X cl cx S lim ex0 wi by rw [hwp]; exact HRW.out.below (below_drewN (Below.refl _ _) _))
                    have HGW := hide (show GB b7 kb t6 (.slice A6 nb.length c6) wi by rw [hwp]; exact HGW.out)
                    have HSW := hide (show SB b5 (.slice (some ⟨b6, o6, none⟩) p.length c1) (.slice P2 x.length c2) wi by rw [hwp]; exact HSW.out)
                    rw [← hwp]
                    obtain ⟨x0, -, x2, xf0, -, xf2⟩ := HRW.out.2.2.2.2.1.facts
                    obtain ⟨k0, -⟩ := HGW.out.facts
                    clear t1 t3 t4 hrl cL
                    go_upto_region 13 with (fail)
                    have hwpb := HRW.out.2.1
                    have hbd : Below wi.heap.size wi wi.drew := (Below.refl _ _).drew
                    have hba1 : Below wi.heap.size wi (wi.drew.alloc (.cells #[.int .i64 kb] 3)) := hbd.alloc (Nat.le_refl _) _
                    have x0d : wi.drew.cell? ⟨g3, 0, none⟩ = some (.slice (some ⟨bL, oL, none⟩) lim.length cl) := x0
                    have k0d : wi.drew.cell? ⟨b7, 0, none⟩ = some (.int .i64 kb) := k0
                    have x1d : (wi.drew.alloc (.cells #[.int .i64 kb] 3)).cell? ⟨g3, 0, none⟩ = some (.slice (some ⟨bL, oL, none⟩) lim.length cl) := (HRW.out.2.2.2.2.1.base hba1 HRW.out.2.2.2.2.1.lt).facts.1
                    have x1e : (wi.alloc (.cells #[.int .i64 kb] 3)).drew.cell? ⟨g3, 0, none⟩ = some (.slice (some ⟨bL, oL, none⟩) lim.length cl) := x1d
                    have hown1 := HRW.out.2.2.2.2.2.1.below RInt.ok (no_lt _) hba1
                    have hcl := ((HRW.out.2.2.2.2.2.1.sl RInt.ok).len_).2.1
                    obtain ⟨xv, hxv⟩ : ∃ xv, (Value.slice (if cl = r then (some ⟨bL, oL, none⟩) else Option.map (fun x : Addr => x.add (r * 1)) (some ⟨bL, oL, none⟩)) (lim.length - r) (cl - r)) = xv := ⟨_, rfl⟩
                    have SRC := hide (show Src RInt 1 (wi.drew.alloc (.cells #[.int .i64 kb] 3)) No xv (lim.drop r) from hxv ▸ rest_src hown1 hle)
                    have SL1 := fun W => int_sl_hm (some ⟨bL, oL, none⟩) lim.length cl r (by omega) W
                    have SL2 : ∀ W, (Instr.slice 33 (.slice (some ⟨bL, oL, none⟩) lim.length cl) (some (.int .i64 (r : Int))) none none).run Tryz.prog W = .ok xv W := fun W => hxv ▸ int_sl_l (some ⟨bL, oL, none⟩) lim.length cl r hle W
                    have OWL := hide (show Own RInt 1 3 (wi.drew.alloc (.cells #[.int .i64 kb] 3)) wi.drew.heap.size No (.slice (some ⟨wi.drew.heap.size, 0, none⟩) 1 1) [kb] from own_one (Nat.le_refl _) kb)
                    have OWE := hide (show Own RInt 1 3 (wi.alloc (.cells #[.int .i64 kb] 3)).drew wi.heap.size No (.slice (some ⟨wi.heap.size, 0, none⟩) 1 1) [kb] from (own_one (Nat.le_refl _) kb).drew RInt.ok)
                    have SRE := hide (show Src RInt 1 (wi.alloc (.cells #[.int .i64 kb] 3)).drew No xv (lim.drop r) from hxv ▸ rest_src (HRW.out.2.2.2.2.2.1.below RInt.ok (no_lt _) (((Below.refl _ _).alloc (Nat.le_refl _) (.cells #[.int .i64 kb] 3)).drew)) hle)
                    have hdl : (lim.drop r).length ≤ 1000 := by rw [List.length_drop]; omega
                    have htl : (lim.take r).length = r := by rw [List.length_take]; omega
                    have HTL := hide htl
                    have HDL := hide hdl
                    clear hwp hba1 hown1 hxv htl hdl
                    go_region_law (first
                      | (refine step_apps RInt.ok _ ?_ (.tmp 74) (.tmp 78) 33 ?_ wi.drew.heap.size 3 (.int .i64 0) 8 Tryz.underlying33 info_int rfl (by decide) No (.slice (some ⟨wi.drew.heap.size, 0, none⟩) 1 1) [kb] ?_ OWL.out xv (lim.drop r) ?_ SRC.out (no_lt _) ?_ ?_ ?_ ?_; rfl; rfl; rfl; rfl; (have := HDL.out; simp at this ⊢; omega); (have := HDL.out; simp [maxLen] at this ⊢; omega); (rw [World.size_alloc]; omega); intro v7 w7 hown7 hgr7 hb7 hat7; have hb17 : Below wi.heap.size wi w7 := (hbd.alloc (Nat.le_refl _) (.cells #[.int .i64 kb] 3)).trans hb7; have hr7 := HRW.out.2.2.2.2.1.base hb17 HRW.out.2.2.2.2.1.lt; have x7 := hr7.facts.1; have PRE := pre_of (HRW.out.2.2.2.2.2.1.below RInt.ok (no_lt _) hb17) hle)
                      | (refine step_apps RInt.ok _ ?_ (.tmp 74) (.tmp 78) 33 ?_ wi.heap.size 3 (.int .i64 0) 8 Tryz.underlying33 info_int rfl (by decide) No (.slice (some ⟨wi.heap.size, 0, none⟩) 1 1) [kb] ?_ OWE.out xv (lim.drop r) ?_ SRE.out (no_lt _) ?_ ?_ ?_ ?_; rfl; rfl; rfl; rfl; (have := HDL.out; simp at this ⊢; omega); (have := HDL.out; simp [maxLen] at this ⊢; omega); (show wi.heap.size ≤ (wi.alloc (.cells #[.int .i64 kb] 3)).heap.size; rw [World.size_alloc]; omega); intro v7 w7 hown7 hgr7 hb7 hat7; have hb17 : Below wi.heap.size wi w7 := ((Below.refl _ _).alloc (Nat.le_refl _) (.cells #[.int .i64 kb] 3)).drew.trans hb7; have hr7 := HRW.out.2.2.2.2.1.base hb17 HRW.out.2.2.2.2.1.lt; have x7 := hr7.facts.1; have PRE := pre_of (HRW.out.2.2.2.2.2.1.below RInt.ok (no_lt _) hb17) hle)
                      | (refine step_ins _ ?_ (.tmp 71) (.tmp 79) 33 ?_ 3 Tryz.underlying33 info_int (some ⟨bL, oL, none⟩) r (lim.take r) HTL.out ?_ PRE wi.drew.heap.size v7 ?_ ([kb] ++ lim.drop r) ?_ hown7 ?_ ?_; rfl; rfl; rfl; rfl; (simp); (have := HDL.out; have := HTL.out; simp only [List.length_append, List.length_cons, List.length_nil]; omega); intro v8 w8 hown8 hb8; obtain ⟨L8, c8, hv8⟩ := (hown8.sl RInt.ok).shape; obtain ⟨n8, hn8⟩ : ∃ n8, (lim.take r ++ ([kb] ++ lim.drop r)).length = n8 := ⟨_, rfl⟩; rw [hn8] at hv8; subst hv8; have HN8 := hide hn8; clear hn8; have hr8 := hr7.base hb8 hr7.lt; have q1 := hr8.facts.1; have q2 := hr8.facts.2.2.2.1)
                      | fail)
                    all_goals
                      have hown8' : Own RInt 1 3 w8 wi.heap.size No (.slice L8 n8 c8) (lim.take r ++ kb :: lim.drop r) := hown8.lower (by have := hb17.size; omega)
                      have hb18 : Below wi.heap.size wi w8 := hb17.trans (hb8.mono hb17.size)
                      have hn8 : (insK lim kb).length = n8 := by rw [HNEW.out]; exact HN8.out
                      have hrf := RI.lim (L' := L8) (cl' := c8) (lim' := insK lim kb) HRW.out hb18 hwg3 h13 h23 h3b (by rw [hn8, HNEW.out]; exact hown8')
                      rw [hn8] at hrf
                      have HRF := hide hrf
                      have HSF := hide ((HSW.out.base hb18 HSW.out.lt).other (k := g3) (j := 0) (by omega) (.slice L8 n8 c8))
                      clear hrf hn8 hown8' hb18 hown7 hgr7 hb7 hat7 hb17 hr7 x7 PRE hown8 hb8 hr8 q1 q2 hwpb hbd x0d k0d x1d x1e hcl SL1 SL2 OWL OWE SRC SRE
                      go_wp2_with fail
                      go_roundw
                      case rel => exact ⟨j + 1, L8, c8, by omega, by go_num, by rw [HSTEP.out]; exact HRF.out, HSF.out⟩
                      case measure => simp [intOf]; omega
                · have t1 : decide ((r : Int) < (lim.length : Int)) = false := by simp; omega
                  have hrl' : (r : Int) = (lim.length : Int) := by omega
                  have t2 : ((r : Int) == (lim.length : Int)) = true := by rw [hrl']; simp
                  have HNEW := hide (show insK lim kb = lim.take r ++ kb :: lim.drop r from HPK.out ▸ insK_new (.inl (by rw [HPK.out]; omega)))
                  clear hrl' hsl
                  go_upto_region 10 with (fail)
                  go_quiet (fail)
                  obtain ⟨wu, hwp⟩ : ∃ ww : World, ww = wr.drewN nq := ⟨_, rfl⟩
                  have HRW := hide (show RI w base g1 g2 g3 (.slice (some ⟨b2, o2, none⟩) st.length c) L X cl cx S lim ex0 wu by rw [hwp]; exact HRW.out.below (below_drewN (Below.refl _ _) _))
                  have HGW := hide (show GB b7 kb t6 (.slice A6 nb.length c6) wu by rw [hwp]; exact HGW.out)
                  have HSW := hide (show SB b5 (.slice (some ⟨b6, o6, none⟩) p.length c1) (.slice P2 x.length c2) wu by rw [hwp]; exact HSW.out)
                  rw [← hwp]
                  obtain ⟨x0, -, x2, xf0, -, xf2⟩ := HRW.out.2.2.2.2.1.facts
                  obtain ⟨k0, -⟩ := HGW.out.facts
                  clear hwp
                  go_upto_region 12 with (fail)
                  go_quiet (fail)
                  obtain ⟨wi, hwp⟩ : ∃ ww : World, ww = wu.drewN nq := ⟨_, rfl⟩
                  have HRW := hide (show RI w base g1 g2 g3 (.slice (some ⟨b2, o2, none⟩) st.length c) L X cl cx S lim ex0 wi by rw [hwp]; exact HRW.out.below (below_drewN (Below.refl _ _) _))
                  have HGW := hide (show GB b7 kb t6 (.slice A6 nb.length c6) wi by rw [hwp]; exact HGW.out)
                  have HSW := hide (show SB b5 (.slice (some ⟨b6, o6, none⟩) p.length c1) (.slice P2 x.length c2) wi by rw [hwp]; exact HSW.out)
                  rw [← hwp]
                  obtain ⟨x0, -, x2, xf0, -, xf2⟩ := HRW.out.2.2.2.2.1.facts
                  obtain ⟨k0, -⟩ := HGW.out.facts
                  clear t1 t2 hrl
                  go_upto_region 13 with (fail)
                  have hwpb := HRW.out.2.1
                  have hbd : Below wi.heap.size wi wi.drew := (Below.refl _ _).drew
                  have hba1 : Below wi.heap.size wi (wi.drew.alloc (.cells #[.int .i64 kb] 3)) := hbd.alloc (Nat.le_refl _) _
                  have x0d : wi.drew.cell? ⟨g3, 0, none⟩ = some (.slice L lim.length cl) := x0
                  have k0d : wi.drew.cell? ⟨b7, 0, none⟩ = some (.int .i64 kb) := k0
                  have x1d : (wi.drew.alloc (.cells #[.int .i64 kb] 3)).cell? ⟨g3, 0, none⟩ = some (.slice L lim.length cl) := (HRW.out.2.2.2.2.1.base hba1 HRW.out.2.2.2.2.1.lt).facts.1
                  have x1e : (wi.alloc (.cells #[.int .i64 kb] 3)).drew.cell? ⟨g3, 0, none⟩ = some (.slice L lim.length cl) := x1d
                  have hown1 := HRW.out.2.2.2.2.2.1.below RInt.ok (no_lt _) hba1
                  have hcl := ((HRW.out.2.2.2.2.2.1.sl RInt.ok).len_).2.1
                  obtain ⟨xv, hxv⟩ : ∃ xv, (Value.slice (if cl = r then L else Option.map (fun x : Addr => x.add (r * 1)) L) (lim.length - r) (cl - r)) = xv := ⟨_, rfl⟩
                  have SRC := hide (show Src RInt 1 (wi.drew.alloc (.cells #[.int .i64 kb] 3)) No xv (lim.drop r) from hxv ▸ rest_src hown1 hle)
                  have SL1 := fun W => int_sl_hm L lim.length cl r (by omega) W
                  have SL2 : ∀ W, (Instr.slice 33 (.slice L lim.length cl) (some (.int .i64 (r : Int))) none none).run Tryz.prog W = .ok xv W := fun W => hxv ▸ int_sl_l L lim.length cl r hle W
                  have OWL := hide (show Own RInt 1 3 (wi.drew.alloc (.cells #[.int .i64 kb] 3)) wi.drew.heap.size No (.slice (some ⟨wi.drew.heap.size, 0, none⟩) 1 1) [kb] from own_one (Nat.le_refl _) kb)
                  have OWE := hide (show Own RInt 1 3 (wi.alloc (.cells #[.int .i64 kb] 3)).drew wi.heap.size No (.slice (some ⟨wi.heap.size, 0, none⟩) 1 1) [kb] from (own_one (Nat.le_refl _) kb).drew RInt.ok)
                  have SRE := hide (show Src RInt 1 (wi.alloc (.cells #[.int .i64 kb] 3)).drew No xv (lim.drop r) from hxv ▸ rest_src (HRW.out.2.2.2.2.2.1.below RInt.ok (no_lt _) (((Below.refl _ _).alloc (Nat.le_refl _) (.cells #[.int .i64 kb] 3)).drew)) hle)
                  have hdl : (lim.drop r).length ≤ 1000 := by rw [List.length_drop]; omega
                  have htl : (lim.take r).length = r := by rw [List.length_take]; omega
                  have HTL := hide htl
                  have HDL := hide hdl
                  clear hwp hba1 hown1 hxv htl hdl
                  go_region_law (first
                    | (refine step_apps RInt.ok _ ?_ (.tmp 74) (.tmp 78) 33 ?_ wi.drew.heap.size 3 (.int .i64 0) 8 Tryz.underlying33 info_int rfl (by decide) No (.slice (some ⟨wi.drew.heap.size, 0, none⟩) 1 1) [kb] ?_ OWL.out xv (lim.drop r) ?_ SRC.out (no_lt _) ?_ ?_ ?_ ?_; rfl; rfl; rfl; rfl; (have := HDL.out; simp at this ⊢; omega); (have := HDL.out; simp [maxLen] at this ⊢; omega); (rw [World.size_alloc]; omega); intro v7 w7 hown7 hgr7 hb7 hat7; have hb17 : Below wi.heap.size wi w7 := (hbd.alloc (Nat.le_refl _) (.cells #[.int .i64 kb] 3)).trans hb7; have hr7 := HRW.out.2.2.2.2.1.base hb17 HRW.out.2.2.2.2.1.lt; have x7 := hr7.facts.1; have PRE := pre_of (HRW.out.2.2.2.2.2.1.below RInt.ok (no_lt _) hb17) hle)
                    | (refine step_apps RInt.ok _ ?_ (.tmp 74) (.tmp 78) 33 ?_ wi.heap.size 3 (.int .i64 0) 8 Tryz.underlying33 info_int rfl (by decide) No (.slice (some ⟨wi.heap.size, 0, none⟩) 1 1) [kb] ?_ OWE.out xv (lim.drop r) ?_ SRE.out (no_lt _) ?_ ?_ ?_ ?_; rfl; rfl; rfl; rfl; (have := HDL.out; simp at this ⊢; omega); (have := HDL.out; simp [maxLen] at this ⊢; omega); (show wi.heap.size ≤ (wi.alloc (.cells #[.int .i64 kb] 3)).heap.size; rw [World.size_alloc]; omega); intro v7 w7 hown7 hgr7 hb7 hat7; have hb17 : Below wi.heap.size wi w7 := ((Below.refl _ _).alloc (Nat.le_refl _) (.cells #[.int .i64 kb] 3)).drew.trans hb7; have hr7 := HRW.out.2.2.2.2.1.base hb17 HRW.out.2.2.2.2.1.lt; have x7 := hr7.facts.1; have PRE := pre_of (HRW.out.2.2.2.2.2.1.below RInt.ok (no_lt _) hb17) hle)
                    | (refine step_ins _ ?_ (.tmp 71) (.tmp 79) 33 ?_ 3 Tryz.underlying33 info_int L r (lim.take r) HTL.out ?_ PRE wi.drew.heap.size v7 ?_ ([kb] ++ lim.drop r) ?_ hown7 ?_ ?_; rfl; rfl; rfl; rfl; (simp); (have := HDL.out; have := HTL.out; simp only [List.length_append, List.length_cons, List.length_nil]; omega); intro v8 w8 hown8 hb8; obtain ⟨L8, c8, hv8⟩ := (hown8.sl RInt.ok).shape; obtain ⟨n8, hn8⟩ : ∃ n8, (lim.take r ++ ([kb] ++ lim.drop r)).length = n8 := ⟨_, rfl⟩; rw [hn8] at hv8; subst hv8; have HN8 := hide hn8; clear hn8; have hr8 := hr7.base hb8 hr7.lt; have q1 := hr8.facts.1; have q2 := hr8.facts.2.2.2.1)
                    | fail)
                  all_goals
                    have hown8' : Own RInt 1 3 w8 wi.heap.size No (.slice L8 n8 c8) (lim.take r ++ kb :: lim.drop r) := hown8.lower (by have := hb17.size; omega)
                    have hb18 : Below wi.heap.size wi w8 := hb17.trans (hb8.mono hb17.size)
                    have hn8 : (insK lim kb).length = n8 := by rw [HNEW.out]; exact HN8.out
                    have hrf := RI.lim (L' := L8) (cl' := c8) (lim' := insK lim kb) HRW.out hb18 hwg3 h13 h23 h3b (by rw [hn8, HNEW.out]; exact hown8')
                    rw [hn8] at hrf
                    have HRF := hide hrf
                    have HSF := hide ((HSW.out.base hb18 HSW.out.lt).other (k := g3) (j := 0) (by omega) (.slice L8 n8 c8))
                    clear hrf hn8 hown8' hb18 hown7 hgr7 hb7 hat7 hb17 hr7 x7 PRE hown8 hb8 hr8 q1 q2 hwpb hbd x0d k0d x1d x1e hcl SL1 SL2 OWL OWE SRC SRE
                    go_wp2_with fail
                    go_roundw
                    case rel => exact ⟨j + 1, L8, c8, by omega, by go_num, by rw [HSTEP.out]; exact HRF.out, HSF.out⟩
                    case measure => simp [intOf]; omega
        · have hjp : p.take j = p := List.take_of_length_le (by omega)
          have HLIMP := hide (show p.foldl limStep lim0 = lim by have := HLIM.out; rw [hjp] at this; exact this)
          obtain ⟨limp, rfl⟩ : ∃ l, l = lim := ⟨_, rfl⟩
          obtain ⟨-, z1, -, -⟩ := hsb.facts
          have HRI := hide hri
          clear hri hsb hjp
          go_wp2_with fail
          clear hjl hj
          go_loopw [86] (fun i wi => ∃ (j : Nat) (X : Option Addr) (cx : Nat) (S : Nat → Prop), j ≤ x.length ∧ i = .int .i64 j ∧ RI w base g1 g2 g3 (.slice (some ⟨b2, o2, none⟩) st.length c) L X cl cx S limp ((x.take j).foldl addG ex0) wi) (fun i _ => x.length - (intOf i).toNat)
          case atStart => exact ⟨0, X, cx, S, Nat.zero_le _, rfl, HRI.out⟩
          case round =>
            obtain ⟨j, X, cx, S, hj, rfl, hri⟩ := hrel
            obtain ⟨ex, hex⟩ : ∃ l, (x.take j).foldl addG ex0 = l := ⟨_, rfl⟩
            rw [hex] at hri
            have HEX := hide hex
            by_cases hjl : j < x.length
            · obtain ⟨b6, o6, t6, A6, c6, hP, hbS6, ht6, d0, d1, d2, hsl6⟩ := KX.out.genAt hjl
              subst hP
              have hbS6' : b6 < w.heap.size := hbS6
              have hjl' : (j : Int) < (x.length : Int) := by omega
              have hgb := HGSP.out.2.2.2 x[j] (List.getElem_mem hjl)
              have hgex := exFold_good (x.take j) ex0 (by
                rw [← HEX0.out]
                exact (exAll_both (st.take a) [] (fun b hb => by cases hb) (fun s hs => ⟨(HST.out.2 s (List.mem_of_mem_take hs)).2.1, (HST.out.2 s (List.mem_of_mem_take hs)).2.2.2⟩)).1) (fun b hb => HGSP.out.2.2.2 b (List.mem_of_mem_take hb))
              rw [hex] at hgex
              have hlex : ex.length ≤ 1000 := by
                have h1 := exFold_len (x.take j) ex0
                have h2 := (exAll_both (st.take a) [] (fun b hb => by cases hb) (fun s hs => ⟨(HST.out.2 s (List.mem_of_mem_take hs)).2.1, (HST.out.2 s (List.mem_of_mem_take hs)).2.2.2⟩)).2
                have h3 : ex0.length ≤ 0 + 4 * (st.take a).length := by rw [← HEX0.out]; exact h2
                rw [hex] at h1
                simp only [List.length_take] at h1 h3
                omega
              obtain ⟨kb, hkb⟩ : ∃ kb, x[j].1 = kb := ⟨_, rfl⟩
              obtain ⟨nb, hnb⟩ : ∃ nb, x[j].2.2 = nb := ⟨_, rfl⟩
              have hbe : x[j] = (kb, t6.data.toList, nb) := by rw [← hkb, ← hnb, ht6]
              have HSTEP := hide (show (x.take (j + 1)).foldl addG ex0 = addG ex (kb, t6.data.toList, nb) by
                rw [List.take_succ_eq_append_getElem hjl, List.foldl_append, hex, hbe]; rfl)
              have hts := size_of_list ht6 hgb.small.1
              have hsn : SmallN nb := by rw [← hnb]; exact hgb.small.2
              have hcn : CpN nb := by rw [← hnb]; exact hgb.cp
              rw [hkb] at d0
              rw [hnb] at d2 hsl6
              have f0 := (hri.1.cell (p := ⟨b6, o6 + j * 3, none⟩) hbS6').trans d0
              have f1 := (hri.1.cell (p := ⟨b6, o6 + j * 3 + 1, none⟩) hbS6').trans d1
              have f2 := (hri.1.cell (p := ⟨b6, o6 + j * 3 + 2, none⟩) hbS6').trans d2
              obtain ⟨b7, hb7⟩ : ∃ b, b = wr.heap.size := ⟨_, rfl⟩
              have hbc : Below wr.heap.size wr (wr.alloc (.cells #[.int .i64 kb, .string t6, .slice A6 nb.length c6] 32)) := (Below.refl _ _).alloc (Nat.le_refl _) _
              have HRW := hide (hri.below hbc)
              have HGB := hide (show GB b7 kb t6 (.slice A6 nb.length c6) (wr.alloc (.cells #[.int .i64 kb, .string t6, .slice A6 nb.length c6] 32)) by rw [hb7]; exact heap_alloc_new wr _)
              have HB7 := hide hb7
              obtain ⟨wz, hwz⟩ : ∃ wz, wz = wr.alloc (.cells #[.int .i64 kb, .string t6, .slice A6 nb.length c6] 32) := ⟨_, rfl⟩
              rw [← hwz] at HRW HGB
              have HWZ := hide hwz
              have AD := hide (add_any ex X cx base S kb t6 nb A6 c6 wz (HMX.out.below HRW.out.1) (by omega) HRW.out.2.1 hgex.small hts hsn hcn HRW.out.2.2.2.2.2.2.1 (fun b hb => (HRW.out.2.2.2.2.2.2.2.1 b hb).2) ((Sl.ok RRdn.ok).below hsl6 HRW.out.1))
              clear hri d0 d1 d2 hsl6 hkb hnb hbe hbc hb7 hwz ht6 hex hgb hgex hts hsn hcn z1
              go_upto_region 18 with (fail)
              rw [← HWZ.out, ← HB7.out]
              obtain ⟨x0, -, x2, xf0, -, xf2⟩ := HRW.out.2.2.2.2.1.facts
              obtain ⟨k0, k1, k2, -, -, -⟩ := HGB.out.facts
              clear f0 f1 f2
              go_wp2_with fail
              refine AD.out.mono ?_
              rintro e w5 ⟨X5, cx5, S5, rfl, hown5, hS5, hgr5, hat5⟩
              have hb5' : Below base wz w5 := ⟨hgr5.os, hgr5.tape, hgr5.output, hgr5.size, fun k hk => hgr5.block k (by have := HRW.out.2.1; omega) (fun e => by have := (HRW.out.2.2.2.2.2.2.1.lt k e.symm).1; omega)⟩
              obtain ⟨q0, -, q2, qf0, -, qf2⟩ := (HRW.out.2.2.2.2.1.base hb5' h3b).facts
              have HRF := hide (HRW.out.ex hwg3 hwb h1b h2b h13 h23 h3b hgr5 hown5 hS5 hat5)
              clear hb5' hown5 hS5 hgr5 hat5 x0 x2 xf0 xf2 k0 k1 k2
              rw [← HSTEP.out] at HRF
              go_wp2_with fail
              go_roundw
              case rel => exact ⟨j + 1, X5, cx5, S5, by omega, by go_num, by rw [HSTEP.out]; rw [HSTEP.out] at HRF; exact HRF.out⟩
              case measure => simp [intOf]; omega
            · have hjp : x.take j = x := List.take_of_length_le (by omega)
              rw [hjp] at hex
              have hfl : redLim (st.take (a + 1)) = limp := by
                rw [HNX.out, redLim, List.foldl_append]
                show p.foldl limStep (redLim (st.take a)) = limp
                rw [HLIM0.out, HLIMP.out]
              have hfe : redEx (st.take (a + 1)) = ex := by
                rw [HNX.out, redEx, List.foldl_append]
                show x.foldl addG (redEx (st.take a)) = ex
                rw [HEX0.out, hex]
              have HRF := hide hri
              have HFL := hide hfl
              have HFE := hide hfe
              clear hri hex hjp hfl hfe HEX
              go_wp2_with fail
              go_roundw
              case rel => exact ⟨a + 1, L, X, cl, cx, S, by omega, by go_num, by rw [HFL.out, HFE.out]; exact HRF.out⟩
              case measure => simp [intOf]; omega
    · have hap : st.take a = st := List.take_of_length_le (by omega)
      rw [hap] at hri
      obtain ⟨lim, hlim⟩ : ∃ l, redLim st = l := ⟨_, rfl⟩
      obtain ⟨ex, hex⟩ : ∃ l, redEx st = l := ⟨_, rfl⟩
      rw [hlim, hex] at hri
      have hlen : lim.length ≤ 16 := by
        have h2 : (redLim st).length ≤ 0 + 4 * st.length := limAll_len st [] (fun s hs => (HST.out.2 s hs).1)
        rw [hlim] at h2
        omega
      have HLIM := hide hlim
      have HEX := hide hex
      obtain ⟨w2, rfl⟩ : ∃ w2 : World, w2 = wr := ⟨_, rfl⟩
      have hpi := PI.start hri
      obtain ⟨base2, hb2⟩ : ∃ b, b = w2.heap.size := ⟨_, rfl⟩
      rw [← hb2] at hpi
      have hbb : base ≤ base2 := by have := hri.2.1; omega
      have SLI := hide (show Sl RInt 1 w2 (Btw base base2) lim [.slice L0 lim.length cl0] from (Sl.ok RInt.ok).mono (hri.2.2.2.2.2.1.sl RInt.ok) (fun _ _ => rfl) (fun k hk => by
        rcases hk with hk | hk
        · exact hk.elim
        · exact ⟨hk.1, by have := hk.2; omega⟩))
      have SLE := hide (show Sl RGen 3 w2 (Btw base base2) ex [.slice X ex.length cx] from (Sl.ok RGen.ok).mono (hri.2.2.2.2.2.2.1.sl RGen.ok) (fun _ _ => rfl) (fun k hk => by
        rcases hk with hk | hk
        · exact ⟨(hri.2.2.2.2.2.2.2.1 k hk).1, by have := (hri.2.2.2.2.2.2.2.1 k hk).2; omega⟩
        · exact ⟨hk.1, by have := hk.2; omega⟩))
      obtain ⟨x0, -⟩ := hri.2.2.2.2.1.facts
      have HPI := hide hpi
      have h12b : g1 < base2 := by omega
      have h22b : g2 < base2 := by omega
      have hwb2 : w.heap.size ≤ base2 := by omega
      clear hri hap hlim hex hpi hb2
      go_wp2_with fail
      clear ha hlt
      go_loopw [100] (fun i wi => ∃ (u : Nat) (P : Option Addr) (cp : Nat) (S : Nat → Prop), u ≤ lim.length ∧ i = .int .i64 u ∧ PI w w2 base base2 g1 g2 g3 (.slice A st.length c) (.slice L0 lim.length cl0) (.slice X ex.length cx) P cp S ((lim.take u).foldl (perK st) []) wi) (fun i _ => lim.length - (intOf i).toNat)
      case atStart => exact ⟨0, none, 0, No, Nat.zero_le _, rfl, HPI.out⟩
      case round =>
        obtain ⟨u, P, cp, S, hu, rfl, hpi⟩ := hrel
        obtain ⟨per5, hper5⟩ : ∃ l, (lim.take u).foldl (perK st) [] = l := ⟨_, rfl⟩
        rw [hper5] at hpi
        by_cases hul : u < lim.length
        · obtain ⟨bL, oL, hL, hbL, cL⟩ := SLI.out.intAt hul
          subst hL
          have hul' : (u : Int) < (lim.length : Int) := by omega
          obtain ⟨kk, hkk⟩ : ∃ kk, lim[u] = kk := ⟨_, rfl⟩
          have hg5 := (perLim_good (GoodSub.bs HST.out) (lim.take u) [] (fun b hb => by cases hb))
          have hper5g : GoodBs per5 ∧ per5.length ≤ 300 := by
            have h1 : GoodBs ((lim.take u).foldl (perK st) []) ∧ ((lim.take u).foldl (perK st) []).length ≤ 0 + 4 * st.length * (lim.take u).length := hg5
            rw [hper5] at h1
            refine ⟨h1.1, ?_⟩
            have h2 := h1.2
            rw [List.length_take] at h2
            have h3 : 4 * st.length * min u lim.length ≤ 16 * 16 := Nat.mul_le_mul (by omega) (by omega)
            omega
          have HP5 := hide hper5g
          have HU := hide (show (lim.take (u + 1)).foldl (perK st) [] = perK st per5 kk by
            rw [List.take_succ_eq_append_getElem hul, List.foldl_append, hper5, hkk]; rfl)
          rw [hkk] at cL
          have cL' : wr.cell? ⟨bL, oL + u, none⟩ = some (.int .i64 kk) := (World.cell?_of_block (a := ⟨bL, oL + u, none⟩) (hpi.2.2.2.2.2.2.2 bL hbL.1 hbL.2)).trans cL
          obtain ⟨y1, -⟩ := hpi.2.2.1.facts
          have HPI := hide hpi
          clear hpi hkk hper5 hg5 hper5g cL x0
          go_wp2_with fail
          clear cL'
          go_loopw [107] (fun i wi => ∃ (a : Nat) (P : Option Addr) (cp : Nat) (S : Nat → Prop), a ≤ st.length ∧ i = .int .i64 a ∧ PI w w2 base base2 g1 g2 g3 (.slice A st.length c) (.slice (some ⟨bL, oL, none⟩) lim.length cl0) (.slice X ex.length cx) P cp S ((st.take a).foldl (fun l s => s.1.foldl (perStep st kk) l) per5) wi) (fun i _ => st.length - (intOf i).toNat)
          case atStart => exact ⟨0, P, cp, S, Nat.zero_le _, rfl, HPI.out⟩
          case round =>
            obtain ⟨a, P, cp, S, ha, rfl, hpi⟩ := hrel
            obtain ⟨per6, hper6⟩ : ∃ l, (st.take a).foldl (fun l s => s.1.foldl (perStep st kk) l) per5 = l := ⟨_, rfl⟩
            rw [hper6] at hpi
            by_cases hlt : a < st.length
            · obtain ⟨b2, o2, P1, c1, P2, c2, hA, hbS, d0, d1, hslp, -⟩ := K.out.subAt hlt
              subst hA
              have hbS' : b2 < w.heap.size := hbS
              have hlt' : (a : Int) < (st.length : Int) := by omega
              have hgs := HST.out.2 st[a] (List.getElem_mem hlt)
              obtain ⟨p, hp⟩ : ∃ p, st[a].1 = p := ⟨_, rfl⟩
              have hgp : GoodBs p := by rw [← hp]; exact hgs.2.2.1
              have hp4 : p.length ≤ 4 := by rw [← hp]; exact hgs.1
              have HA := hide (show (st.take (a + 1)).foldl (fun l s => s.1.foldl (perStep st kk) l) per5 = p.foldl (perStep st kk) per6 by
                rw [List.take_succ_eq_append_getElem hlt, List.foldl_append, hper6, ← hp]; rfl)
              have hper6g : GoodBs per6 ∧ per6.length ≤ 400 := by
                have h1 := perAll_good (st := st) (k := kk) (st.take a) per5 HP5.out.1 (fun s hs => GoodSub.bs HST.out s (List.mem_of_mem_take hs))
                rw [hper6, List.length_take] at h1
                have := HP5.out.2
                exact ⟨h1.1, by omega⟩
              have HP6 := hide hper6g
              have HGP := hide hgp
              obtain ⟨x2, hx2⟩ : ∃ n, st[a].2.length = n := ⟨_, rfl⟩
              rw [hp] at d0 hslp
              rw [hx2] at d1
              have f0 := (hpi.1.cell (p := ⟨b2, o2 + a * 2, none⟩) hbS').trans d0
              have f1 := (hpi.1.cell (p := ⟨b2, o2 + a * 2 + 1, none⟩) hbS').trans d1
              have KP := hide hslp
              have hbc : Below wr.heap.size wr (wr.alloc (.cells #[.slice P1 p.length c1, .slice P2 x2 c2] 27)) := (Below.refl _ _).alloc (Nat.le_refl _) _
              have HPW := hide (hpi.below hbc)
              have hsb : SB wr.heap.size (.slice P1 p.length c1) (.slice P2 x2 c2) (wr.alloc (.cells #[.slice P1 p.length c1, .slice P2 x2 c2] 27)) := heap_alloc_new wr _
              obtain ⟨b5, hb5⟩ : ∃ b, b = wr.heap.size := ⟨_, rfl⟩
              rw [← hb5] at hsb
              obtain ⟨wq, hwq⟩ : ∃ wq, wq = wr.alloc (.cells #[.slice P1 p.length c1, .slice P2 x2 c2] 27) := ⟨_, rfl⟩
              rw [← hwq] at HPW hsb
              have HWQ := hide hwq
              have HB5 := hide hb5
              obtain ⟨z0, -⟩ := hsb.facts
              clear hpi hp hgs hgp hper6 hper6g hx2 d0 d1 hslp hbc hsb hb5 hwq y1
              go_upto_region 27 with (fail)
              rw [← HWQ.out, ← HB5.out]
              clear f0 f1
              go_wp2_with fail
              clear z0
              go_loopw [114] (fun i wi => ∃ (j : Nat) (P : Option Addr) (cp : Nat) (S : Nat → Prop), j ≤ p.length ∧ i = .int .i64 j ∧ PI w w2 base base2 g1 g2 g3 (.slice (some ⟨b2, o2, none⟩) st.length c) (.slice (some ⟨bL, oL, none⟩) lim.length cl0) (.slice X ex.length cx) P cp S ((p.take j).foldl (perStep st kk) per6) wi) (fun i _ => p.length - (intOf i).toNat)
              case atStart => exact ⟨0, P, cp, S, Nat.zero_le _, rfl, HPW.out⟩
              case round =>
                obtain ⟨j, P, cp, S, hj, rfl, hpi⟩ := hrel
                obtain ⟨per, hper⟩ : ∃ l, (p.take j).foldl (perStep st kk) per6 = l := ⟨_, rfl⟩
                rw [hper] at hpi
                by_cases hjl : j < p.length
                · obtain ⟨b6, o6, t6, A6, c6, hP, hbS6, ht6, d0, d1, d2, hsl6⟩ := KP.out.genAt hjl
                  subst hP
                  have hbS6' : b6 < w.heap.size := hbS6
                  have hjl' : (j : Int) < (p.length : Int) := by omega
                  have hgb := HGP.out p[j] (List.getElem_mem hjl)
                  have hperg : GoodBs per ∧ per.length ≤ 500 := by
                    have h1 := perFold_good (st := st) (k := kk) (p.take j) per6 HP6.out.1 (fun b hb => HGP.out b (List.mem_of_mem_take hb))
                    rw [hper, List.length_take] at h1
                    have := HP6.out.2
                    exact ⟨h1.1, by omega⟩
                  obtain ⟨hpg, hpl⟩ := hperg
                  obtain ⟨kb, hkb⟩ : ∃ kb, p[j].1 = kb := ⟨_, rfl⟩
                  obtain ⟨nb, hnb⟩ : ∃ nb, p[j].2.2 = nb := ⟨_, rfl⟩
                  have hbe : p[j] = (kb, t6.data.toList, nb) := by rw [← hkb, ← hnb, ht6]
                  have hsg : SmallG (kb, t6.data.toList, nb) := by rw [← hbe]; exact hgb.small
                  have hts := size_of_list ht6 hgb.small.1
                  have hsn : SmallN nb := by rw [← hnb]; exact hgb.small.2
                  have hcn : CpN nb := by rw [← hnb]; exact hgb.cp
                  have HJ := hide (show (p.take (j + 1)).foldl (perStep st kk) per6 = perStep st kk per (kb, t6.data.toList, nb) by
                    rw [List.take_succ_eq_append_getElem hjl, List.foldl_append, hper, hbe]; rfl)
                  rw [hkb] at d0
                  rw [hnb] at d2 hsl6
                  have f0 := (hpi.1.cell (p := ⟨b6, o6 + j * 3, none⟩) hbS6').trans d0
                  have f1 := (hpi.1.cell (p := ⟨b6, o6 + j * 3 + 1, none⟩) hbS6').trans d1
                  have f2 := (hpi.1.cell (p := ⟨b6, o6 + j * 3 + 2, none⟩) hbS6').trans d2
                  have hbc : Below wr.heap.size wr (wr.alloc (.cells #[.int .i64 kb, .string t6, .slice A6 nb.length c6] 32)) := (Below.refl _ _).alloc (Nat.le_refl _) _
                  have HPZ := hide (hpi.below hbc)
                  obtain ⟨b7, hb7⟩ : ∃ b, b = wr.heap.size := ⟨_, rfl⟩
                  have HGB := hide (show GB b7 kb t6 (.slice A6 nb.length c6) (wr.alloc (.cells #[.int .i64 kb, .string t6, .slice A6 nb.length c6] 32)) by rw [hb7]; exact heap_alloc_new wr _)
                  have HB7 := hide hb7
                  obtain ⟨wz, hwz⟩ : ∃ wz, wz = wr.alloc (.cells #[.int .i64 kb, .string t6, .slice A6 nb.length c6] 32) := ⟨_, rfl⟩
                  rw [← hwz] at HPZ HGB
                  have HWZ := hide hwz
                  have HPG := hide hpg
                  have HSN := hide hsn
                  have HCN := hide hcn
                  have HSG := hide hsg
                  have HSL := hide hsl6
                  obtain ⟨y1, -⟩ := HPZ.out.2.2.1.facts
                  obtain ⟨k0, k1, k2, -, -, -⟩ := HGB.out.facts
                  clear hpi d0 d1 d2 hsl6 hkb hnb hbe hbc hb7 hwz ht6 hper hgb hpg hsg hsn hcn
                  go_upto_region 30 with (fail)
                  rw [← HWZ.out, ← HB7.out]
                  clear f0 f1 f2
                  by_cases hkk : kb = kk
                  · have t1 : (kb == kk) = true := by simpa using hkk
                    obtain ⟨q, hq⟩ : ∃ q, allowsG st (kb, t6.data.toList, nb) = q := ⟨_, rfl⟩
                    have AL := hide (allows_any (kb, t6.data.toList, nb) t6 A6 c6 st (some ⟨b2, o2, none⟩) c rfl HSG.out HST.out.small q hq wz (HMX.out.below HPZ.out.1) ((Sl.ok RRdn.ok).below HSL.out HPZ.out.1) ((Sl.ok RSub.ok).below K.out HPZ.out.1))
                    have HQ := hide hq
                    have HKK := hide hkk
                    clear hq hkk
                    go_wp2_with fail
                    refine AL.out.mono ?_
                    rintro e w5 ⟨rfl, hb5⟩
                    cases q
                    · have HST2 := hide (show perStep st kk per (kb, t6.data.toList, nb) = per by
                        unfold perStep
                        rw [HQ.out, Bool.and_false]; rfl)
                      have HPF := hide (HPZ.out.below hb5)
                      clear hb5 y1 k0 k1 k2
                      go_wp2_with fail
                      go_roundw
                      case rel => exact ⟨j + 1, P, cp, S, by omega, by go_num, by rw [HJ.out, HST2.out]; exact HPF.out⟩
                      case measure => simp [intOf]; omega
                    · have HST2 := hide (show perStep st kk per (kb, t6.data.toList, nb) = addG per (kb, t6.data.toList, nb) by
                        unfold perStep
                        rw [HQ.out, HKK.out]; simp)
                      have HPF := hide (HPZ.out.below hb5)
                      have HGF := hide (HGB.out.below hb5)
                      have AD := hide (add_any per P cp base2 S kb t6 nb A6 c6 w5 (HMX.out.below HPF.out.1) (by omega) HPF.out.2.1 HPG.out.small hts HSN.out HCN.out HPF.out.2.2.2.2.2.1 (fun b hb => (HPF.out.2.2.2.2.2.2.1 b hb).2) ((Sl.ok RRdn.ok).below HSL.out HPF.out.1))
                      obtain ⟨-, x1, -, -, xf1, -⟩ := HPF.out.2.2.2.2.1.facts
                      obtain ⟨k0, k1, k2, -, -, -⟩ := HGF.out.facts
                      clear hb5 y1
                      go_wp2_with fail
                      refine AD.out.mono ?_
                      rintro e w6 ⟨P5, cp5, S5, rfl, hown5, hS5, hgr5, hat5⟩
                      have hb5' : Below base2 w5 w6 := ⟨hgr5.os, hgr5.tape, hgr5.output, hgr5.size, fun k hk => hgr5.block k (by have := HPF.out.2.1; omega) (fun e => by have := (HPF.out.2.2.2.2.2.1.lt k e.symm).1; omega)⟩
                      obtain ⟨-, q1, -, -, qf1, -⟩ := (HPF.out.2.2.2.2.1.base hb5' (by omega)).facts
                      have HRF := hide (HPF.out.per hwg3 hwb2 h12b h22b h13 h23 h3b hbb hgr5 hown5 hS5)
                      clear hb5' hown5 hS5 hgr5 hat5 x1 xf1 k0 k1 k2
                      go_wp2_with fail
                      go_roundw
                      case rel => exact ⟨j + 1, P5, cp5, S5, by omega, by go_num, by rw [HJ.out, HST2.out]; exact HRF.out⟩
                      case measure => simp [intOf]; omega
                  · have t1 : (kb == kk) = false := by simpa using hkk
                    have HST2 := hide (show perStep st kk per (kb, t6.data.toList, nb) = per by
                      unfold perStep
                      rw [show (((kb, t6.data.toList, nb) : Gen).1 == kk) = false from t1, Bool.false_and]; rfl)
                    clear hkk
                    go_wp2_with fail
                    go_roundw
                    case rel => exact ⟨j + 1, P, cp, S, by omega, by go_num, by rw [HJ.out, HST2.out]; exact HPZ.out⟩
                    case measure => simp [intOf]; omega
                · have hjp : p.take j = p := List.take_of_length_le (by omega)
                  rw [hjp] at hper
                  have HF := hide (show (st.take (a + 1)).foldl (fun l s => s.1.foldl (perStep st kk) l) per5 = per by rw [HA.out, hper])
                  have HPF := hide hpi
                  clear hpi hjp hper
                  go_wp2_with fail
                  go_roundw
                  case rel => exact ⟨a + 1, P, cp, S, by omega, by go_num, by rw [HF.out]; exact HPF.out⟩
                  case measure => simp [intOf]; omega
            · have hap : st.take a = st := List.take_of_length_le (by omega)
              rw [hap] at hper6
              have HF := hide (show (lim.take (u + 1)).foldl (perK st) [] = per6 by rw [HU.out]; exact hper6)
              have HPF := hide hpi
              clear hpi hap hper6
              go_wp2_with fail
              go_roundw
              case rel => exact ⟨u + 1, P, cp, S, by omega, by go_num, by rw [HF.out]; exact HPF.out⟩
              case measure => simp [intOf]; omega
        · have hup : lim.take u = lim := List.take_of_length_le (by omega)
          rw [hup] at hper5
          have HF := hide (show redPer st lim = per5 from hper5)
          obtain ⟨s0, s1, s2, -, -, -⟩ := hpi.2.2.2.2.1.facts
          obtain ⟨r0, r1, r2, rf0, rf1, rf2⟩ := hpi.2.2.2.1.facts
          have HPF := hide hpi
          clear hpi hup hper5 x0
          go_wp2_with fail
          obtain ⟨wn, rfl⟩ : ∃ wn : World, wn = wr := ⟨_, rfl⟩
          have hst := HPF.out.2.2.2.1.store3 (.slice L0 lim.length cl0) (.slice P per5.length cp) (.slice X ex.length cx)
          have hbf := ((HPF.out.1.setCell (p := ⟨g2, 0, none⟩) hwg2 (.slice L0 lim.length cl0)).setCell (p := ⟨g2, 1, none⟩) hwg2 (.slice P per5.length cp)).setCell (p := ⟨g2, 2, none⟩) hwg2 (.slice X ex.length cx)
          have hoff := fun k (hk : k ≠ g2) => set3_off (g := g2) (k := k) (W := wn) (.slice L0 lim.length cl0) (.slice P per5.length cp) (.slice X ex.length cx) hk
          have hsz : (((wn.setCell ⟨g2, 0, none⟩ (.slice L0 lim.length cl0)).setCell ⟨g2, 1, none⟩ (.slice P per5.length cp)).setCell ⟨g2, 2, none⟩ (.slice X ex.length cx)).heap.size = wn.heap.size := by simp
          obtain ⟨W3, hW3⟩ : ∃ W3, W3 = ((wn.setCell ⟨g2, 0, none⟩ (.slice L0 lim.length cl0)).setCell ⟨g2, 1, none⟩ (.slice P per5.length cp)).setCell ⟨g2, 2, none⟩ (.slice X ex.length cx) := ⟨_, rfl⟩
          rw [← hW3] at hst hbf hoff hsz ⊢
          have hpz := HPF.out.2.1
          have hs1 : Sl RInt 1 W3 (Btw w.heap.size W3.heap.size) lim [.slice L0 lim.length cl0] := (Sl.ok RInt.ok).mono SLI.out (fun k hk => (hoff k (by have := hk.1; omega)).trans (HPF.out.2.2.2.2.2.2.2 k hk.1 hk.2)) (fun k hk => ⟨by have := hk.1; omega, by have := hk.2; omega⟩)
          have hs3 : Sl RGen 3 W3 (Btw w.heap.size W3.heap.size) ex [.slice X ex.length cx] := (Sl.ok RGen.ok).mono SLE.out (fun k hk => (hoff k (by have := hk.1; omega)).trans (HPF.out.2.2.2.2.2.2.2 k hk.1 hk.2)) (fun k hk => ⟨by have := hk.1; omega, by have := hk.2; omega⟩)
          have hrange : ∀ k, (S k ∨ (base2 ≤ k ∧ k < wn.heap.size)) → base2 ≤ k ∧ k < wn.heap.size := fun k hk => by
            rcases hk with hk | hk
            · exact HPF.out.2.2.2.2.2.2.1 k hk
            · exact hk
          have hs2 : Sl RGen 3 W3 (Btw w.heap.size W3.heap.size) per5 [.slice P per5.length cp] := (Sl.ok RGen.ok).mono (HPF.out.2.2.2.2.2.1.sl RGen.ok) (fun k hk => hoff k (by have := hrange k hk; omega)) (fun k hk => by have := hrange k hk; exact ⟨by omega, by omega⟩)
          obtain ⟨q0, q1, q2, -, -, -⟩ := hst.facts
          refine bodyPost_ret (v := .agg #[.slice L0 lim.length cl0, .slice P per5.length cp, .slice X ex.length cx]) (by simp [results, Tryz.results25, go_sem, q0, q1, q2]) rfl ?_
          unfold RedPost
          rw [HLIM.out, HEX.out, HF.out]
          exact ⟨L0, P, X, cl0, cp, cx, rfl, hs1, hs2, hs3, hbf⟩
end Go.Proofs.YtodapmkdmkhhfaaGreatDoor
