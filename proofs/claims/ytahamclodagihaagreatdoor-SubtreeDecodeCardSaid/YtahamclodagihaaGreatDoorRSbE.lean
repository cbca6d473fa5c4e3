/- Check of name constraints, the reference. -/
import Derived.Test.YtahamclodagihaaGreatDoorRSbB
import Derived.Test.YtahamclodagihaaGreatDoorRGLibI
import Derived.Test.YtahamclodagihaaGreatDoorRGnI
namespace Go.Proofs.YtahamclodagihaaGreatDoor
open Go.RowKit
section
variable {P : Program} {α : Type} {R : Rep α} {size : Nat} {w : World} {ops : Array Oper} {o : Oper} {a : Act} {Q : Exit → Act → World → Prop} {K : Act → World → Prop}
theorem wp_appsl (hR : RepOk R size) (w : World) (s x : Operand) (t : TypeId) (ho : o.op = .call { callee := .builtin .append, args := #[s, x], argTypes := #[t, t] })
  (base : Nat) (e : TypeId) (z : Value) (bytes : Nat) (ht : P.underlying t = some (.slice e))
  (hi : (P.info? e).map (fun i => (i.zero, i.size, i.bytes)) = some (some z, size, bytes)) (hzs : z.cells.size = size) (hsz : 0 < size)
  (S : Nat → Prop) (v : Value) (l : List α) (hs : a.eval s = v) (hown : Own R size e w base S v l) (A : Option Addr) (c : Nat) (ys : List α) (hx : a.eval x = .slice A ys.length c) (hsrc : Sl R size w S ys [.slice A ys.length c])
  (hS : ∀ k, S k → k < w.heap.size) (hbytes : (l.length + ys.length) * bytes ≤ 140737488355328) (h63 : l.length + ys.length ≤ maxLen) (hbase : base ≤ w.heap.size)
  (h : ∀ v' w', Own R size e w' base S v' (l ++ ys) → Below base w w' → K (a.put o.dst v') w') : o.wp P a w K Q := by
 by_cases hl : ys = []
 ·subst hl
  obtain ⟨i0, hi0, hz0, hz1, hz2⟩ := info_parts hi
  have hown' := hown
  obtain ⟨xs, h1, h2, h3⟩ := hown
  have hrun := run_append_owned_zero (P := P) (w := w) base t o.type e i0 size ht hi0 v l.length xs h1 A c
  have hK := h v w (by rw [List.append_nil]; exact hown') (Below.refl _ _)
  have hx' : a.eval x = .slice A 0 c := hx
  unfold Oper.wp execOp
  simp [ho, resolve, invoke, builtin, hs, hx', hrun, Result.andThen]
  exact hK
 ·obtain ⟨ad, rfl, hy⟩ := sl_src hsrc hl
  exact wp_app hR w s x t ho base e z bytes ht hi hzs hsz S v l hs hown ad ys.length c ys hx rfl hy hS hbytes h63 hbase (fun v' w' h2 _ h4 _ => h v' w' h2 h4)
end
structure CJ (gs : Nat) (p x : List Gen) (A B : Option Addr) (c d : Nat) (w0 : World) (dd : Nat → Bool) (val : Nat → Value) (W : World) : Prop where
 base : Below w0.heap.size w0 W
 p26 : dd 0 = true → val 26 = .pointer (some ⟨gs, 0, none⟩)
 l27 : dd 1 = true → val 27 = .slice A p.length c
 o28 : dd 2 = true → dd 5 = false → Own RGen 3 62 W w0.heap.size (Lt w0.heap.size) (val 28) p
 p29 : dd 3 = true → val 29 = .pointer (some ⟨gs, 1, none⟩)
 l30 : dd 4 = true → val 30 = .slice B x.length d
 o31 : dd 5 = true → Own RGen 3 62 W w0.heap.size (Lt w0.heap.size) (val 31) (p ++ x)
 m32 : dd 6 = true → val 32 = .int .i64 ((p ++ x).length : Int)
 m33 : dd 7 = true → val 33 = .int .i64 0
theorem CJ.start {gs : Nat} {p x : List Gen} {A B : Option Addr} {c d : Nat} {w0 : World} {val : Nat → Value} : CJ gs p x A B c d w0 (fun _ => false) val w0.drew :=
 ⟨(Below.refl _ _).drew, nofun, nofun, nofun, nofun, nofun, nofun, nofun, nofun⟩
set_option maxRecDepth 100000 in
set_option maxHeartbeats 16000000 in
theorem rSCheck_any (p x : List Gen) (A B : Option Addr) (c d : Nat) (hs : MedGs (p ++ x)) (q : Int) (hq : chkS (p, x) = q) (w : World) (hmx : Mx w)
  (h1 : Sl RGen 3 w (Lt w.heap.size) p [.slice A p.length c]) (h2 : Sl RGen 3 w (Lt w.heap.size) x [.slice B x.length d]) :
  Calls Tryz.prog 78 #[.agg #[.slice A p.length c, .slice B x.length d]] w fun e w' => e = .returned (.int .i64 q) ∧ Below w.heap.size w w' := by
 obtain ⟨-, hnc, hcm⟩ := h1.len_
 obtain ⟨-, hnc2, hcm2⟩ := h2.len_
 unfold maxLen at hcm hcm2
 have K1 := hide h1
 have K2 := hide h2
 have HSS := hide hs
 have HMX := hide hmx
 have HQ0 := hide hq
 obtain ⟨wa, hwa⟩ : ∃ W, W = w.alloc (.cells #[.slice A p.length c, .slice B x.length d] 52) := ⟨_, rfl⟩
 obtain ⟨c0, c1⟩ := two_cells hwa
 have hzA : w.heap.size < wa.heap.size := by rw [hwa]; simp
 have HBA := hide (show Below w.heap.size w wa by rw [hwa]; exact (Below.refl _ _).alloc (Nat.le_refl _) _)
 clear h1 h2 hs hmx hq
 go_enter Tryz.func78, Tryz.ntmps78
 go_upto_region 1 with fail
 rw [← hwa]
 clear hwa
 by_cases hp0 : p.length = 0
 ·have tp : ((p.length : Int) == 0) = true := by rw [hp0]; rfl
  by_cases hx0 : x.length = 0
  ·have tx : ((x.length : Int) == 0) = true := by rw [hx0]; rfl
   have HN0 := hide (show 7 = q by rw [← HQ0.out, chkS, if_pos ⟨hp0, hx0⟩])
   clear hp0 hx0
   have HN := hide (show 7 = q from HN0.out)
   go_wp2_with fail
   go_ret
   exact ⟨ret_int HN.out, HBA.out⟩
  ·have tx : ((x.length : Int) == 0) = false := beq_false_of_ne (by omega)
   have tp2 : ¬ (16 : Int) < (p.length : Int) := by omega
   by_cases hx1 : 16 < x.length
   ·have tx2 : (16 : Int) < (x.length : Int) := by omega
    have HN0 := hide (show 2 = q by rw [← HQ0.out, chkS, if_neg (fun h => hx0 h.2), if_pos (.inr hx1)])
    clear hp0 hx0 hx1
    have HN := hide (show 2 = q from HN0.out)
    go_wp2_with fail
    go_ret
    exact ⟨ret_int HN.out, HBA.out⟩
   ·have tx2 : ¬ (16 : Int) < (x.length : Int) := by omega
    have HQS := hide (show chkGs true (p ++ x) = q by rw [← HQ0.out, chkS, if_neg (fun h => hx0 h.2), if_neg (fun h => by rcases h with h | h <;> simp only at h <;> omega)])
    clear hp0 hx0 hx1
    have K1a := hide ((Sl.ok RGen.ok).below K1.out HBA.out)
    have K2a := hide ((Sl.ok RGen.ok).below K2.out HBA.out)
    have hzp : (p.length + x.length) * 48 ≤ 140737488355328 := by omega
    have hzs : wa.heap.size > w.heap.size := hzA
    have C0 := hide c0
    have C1 := hide c1
    go_upto_region 5 with fail
    clear c0 c1
    refine region_inv [26, 27, 28, 29, 30, 31, 32, 33] (CJ w.heap.size p x A B c d wa) (by kernel_rfl) (by kernel_rfl) (fun val => CJ.start) ⟨?_, ?_, ?_, ?_, ?_, ?_, ?_, ?_, trivial⟩ ?_
    ·refine ⟨fun s hs => by cases hs <;> decide, ?_⟩
     rintro dd val W hJ hd hdep K hK
     rw [if_pos (by rfl)]
     dsimp only [putF, List.foldl, Act.put] at hK ⊢
     simp only [List.setIfInBounds_toArray, List.set_cons_zero, List.set_cons_succ] at hK ⊢
     go_simp
     exact hK.out _ _ { base := hJ.base, p26 := fun _ => rfl, l27 := hJ.l27, o28 := hJ.o28, p29 := hJ.p29, l30 := hJ.l30, o31 := hJ.o31, m32 := hJ.m32, m33 := hJ.m33 }
    ·refine ⟨fun s hs => by cases hs <;> decide, ?_⟩
     rintro dd val W hJ hd hdep K hK
     rw [if_pos (by rfl)]
     dsimp only [putF, List.foldl, Act.put] at hK ⊢
     simp only [List.setIfInBounds_toArray, List.set_cons_zero, List.set_cons_succ] at hK ⊢
     have e26 := hJ.p26 (hdep ⟨0, .data⟩ (by simp) rfl)
     have m0 : W.cell? ⟨w.heap.size, 0, none⟩ = some (.slice A p.length c) := (hJ.base.cell (p := ⟨w.heap.size, 0, none⟩) hzs).trans C0.out
     simp only [e26] at hK ⊢
     go_simp
     exact hK.out _ _ { base := hJ.base, p26 := hJ.p26, l27 := fun _ => rfl, o28 := hJ.o28, p29 := hJ.p29, l30 := hJ.l30, o31 := hJ.o31, m32 := hJ.m32, m33 := hJ.m33 }
    ·refine ⟨fun s hs => by cases hs <;> decide, ?_⟩
     rintro dd val W hJ hd hdep K hK
     rw [if_pos (by rfl)]
     dsimp only [putF, List.foldl, Act.put] at hK ⊢
     simp only [List.setIfInBounds_toArray, List.set_cons_zero, List.set_cons_succ] at hK ⊢
     have e27 := hJ.l27 (hdep ⟨1, .data⟩ (by simp) rfl)
     simp only [e27] at hK ⊢
     have hsp := (Sl.ok RGen.ok).mono K1a.out (fun k hk => hJ.base.block k hk) (fun _ hk => hk)
     refine wp_copy RGen.ok W (.const (.slice none 0 0)) (.tmp 27) 50 rfl wa.heap.size 62 (.agg #[.int .i64 0, .string ⟨#[]⟩, .slice none 0 0]) 48 Tryz.underlying50 info_gen rfl (by decide) (Lt wa.heap.size) (Lt wa.heap.size) (fun _ _ h => h) rfl A c p rfl hsp (fun k hk => Nat.lt_of_lt_of_le hk hJ.base.size) (by omega) hJ.base.size ?_
     intro v' w' hown hb hat
     have hbb : Below wa.heap.size wa w' := hJ.base.trans (hb.mono hJ.base.size)
     exact hK.out v' w' { base := hbb, p26 := hJ.p26, l27 := hJ.l27, o28 := fun _ _ => hown, p29 := hJ.p29, l30 := hJ.l30, o31 := fun h5 => (hJ.o31 h5).below RGen.ok (fun k hk => Nat.lt_of_lt_of_le hk hJ.base.size) hb, m32 := hJ.m32, m33 := hJ.m33 }
    ·refine ⟨fun s hs => by cases hs <;> decide, ?_⟩
     rintro dd val W hJ hd hdep K hK
     rw [if_pos (by rfl)]
     dsimp only [putF, List.foldl, Act.put] at hK ⊢
     simp only [List.setIfInBounds_toArray, List.set_cons_zero, List.set_cons_succ] at hK ⊢
     go_simp
     exact hK.out _ _ { base := hJ.base, p26 := hJ.p26, l27 := hJ.l27, o28 := hJ.o28, p29 := fun _ => rfl, l30 := hJ.l30, o31 := hJ.o31, m32 := hJ.m32, m33 := hJ.m33 }
    ·refine ⟨fun s hs => by cases hs <;> decide, ?_⟩
     rintro dd val W hJ hd hdep K hK
     rw [if_pos (by rfl)]
     dsimp only [putF, List.foldl, Act.put] at hK ⊢
     simp only [List.setIfInBounds_toArray, List.set_cons_zero, List.set_cons_succ] at hK ⊢
     have e29 := hJ.p29 (hdep ⟨3, .data⟩ (by simp) rfl)
     have m1 : W.cell? ⟨w.heap.size, 1, none⟩ = some (.slice B x.length d) := (hJ.base.cell (p := ⟨w.heap.size, 1, none⟩) hzs).trans C1.out
     simp only [e29] at hK ⊢
     go_simp
     exact hK.out _ _ { base := hJ.base, p26 := hJ.p26, l27 := hJ.l27, o28 := hJ.o28, p29 := hJ.p29, l30 := fun _ => rfl, o31 := hJ.o31, m32 := hJ.m32, m33 := hJ.m33 }
    ·refine ⟨fun s hs => by cases hs <;> decide, ?_⟩
     rintro dd val W hJ hd hdep K hK
     rw [if_pos (by rfl)]
     dsimp only [putF, List.foldl, Act.put] at hK ⊢
     simp only [List.setIfInBounds_toArray, List.set_cons_zero, List.set_cons_succ] at hK ⊢
     have D2 := hdep ⟨2, .data⟩ (by simp) rfl
     have e30 := hJ.l30 (hdep ⟨4, .data⟩ (by simp) rfl)
     have hown := hJ.o28 D2 hd
     simp only [e30] at hK ⊢
     have hsx := (Sl.ok RGen.ok).mono K2a.out (fun k hk => hJ.base.block k hk) (fun _ hk => hk)
     refine wp_appsl RGen.ok W (.tmp 28) (.tmp 30) 50 rfl wa.heap.size 62 (.agg #[.int .i64 0, .string ⟨#[]⟩, .slice none 0 0]) 48 Tryz.underlying50 info_gen rfl (by decide) (Lt wa.heap.size) (val 28) p rfl hown B d x rfl hsx (fun k hk => Nat.lt_of_lt_of_le hk hJ.base.size) hzp (by simp [maxLen]; omega) hJ.base.size ?_
     intro v' w' hown' hb
     exact hK.out v' w' { base := hJ.base.trans hb, p26 := hJ.p26, l27 := hJ.l27, o28 := fun _ h => (by cases h), p29 := hJ.p29, l30 := hJ.l30, o31 := fun _ => hown', m32 := hJ.m32, m33 := hJ.m33 }
    ·refine ⟨fun s hs => by cases hs <;> decide, ?_⟩
     rintro dd val W hJ hd hdep K hK
     rw [if_pos (by rfl)]
     dsimp only [putF, List.foldl, Act.put] at hK ⊢
     simp only [List.setIfInBounds_toArray, List.set_cons_zero, List.set_cons_succ] at hK ⊢
     have D5 := hdep ⟨5, .data⟩ (by simp) rfl
     obtain ⟨B9, cb, e31⟩ := ((hJ.o31 D5).sl RGen.ok).shape
     obtain ⟨n9, hn9⟩ : ∃ n, (p ++ x).length = n := ⟨_, rfl⟩
     rw [hn9] at e31
     simp only [e31] at hK ⊢
     go_simp
     exact hK.out _ _ { base := hJ.base, p26 := hJ.p26, l27 := hJ.l27, o28 := hJ.o28, p29 := hJ.p29, l30 := hJ.l30, o31 := hJ.o31, m32 := fun _ => (by rw [hn9]; rfl), m33 := hJ.m33 }
    ·refine ⟨fun s hs => by cases hs <;> decide, ?_⟩
     rintro dd val W hJ hd hdep K hK
     rw [if_pos (by rfl)]
     dsimp only [putF, List.foldl, Act.put] at hK ⊢
     simp only [List.setIfInBounds_toArray, List.set_cons_zero, List.set_cons_succ] at hK ⊢
     go_simp
     exact hK.out _ _ { base := hJ.base, p26 := hJ.p26, l27 := hJ.l27, o28 := hJ.o28, p29 := hJ.p29, l30 := hJ.l30, o31 := hJ.o31, m32 := hJ.m32, m33 := fun _ => rfl }
    ·rintro dd val W hall hJ
     have hown := hJ.o31 (hall 5 (by decide))
     have hslc : Sl RGen 3 W (Lt W.heap.size) (p ++ x) [val 31] := (Sl.ok RGen.ok).mono (hown.sl RGen.ok) (fun _ _ => rfl) (fun k hk => by
      rcases hk with hk | hk
      ·exact Nat.lt_of_lt_of_le hk hJ.base.size
      ·exact hk.2)
     obtain ⟨A9, c9, e31⟩ := hslc.shape
     rw [e31] at hslc
     have e32 := hJ.m32 (hall 6 (by decide))
     have e33 := hJ.m33 (hall 7 (by decide))
     obtain ⟨l, hl⟩ : ∃ l, p ++ x = l := ⟨_, rfl⟩
     rw [hl] at e31 e32 hslc
     have hll : l.length ≤ 32 := by rw [← hl, List.length_append]; omega
     have HQL := hide (show chkGs true l = q by rw [← hl]; exact HQS.out)
     have HSSL := hide (show MedGs l by rw [← hl]; exact HSS.out)
     have KL := hide hslc
     have HBW := hide (HBA.out.trans (hJ.base.mono HBA.out.size))
     obtain ⟨-, hnc9, hcm9⟩ := hslc.len_
     unfold maxLen at hcm9
     dsimp only [putF, List.foldl, Act.put]
     simp only [List.setIfInBounds_toArray, List.set_cons_zero, List.set_cons_succ]
     simp only [e31, e32, e33]
     clear hown hslc e31 e32 e33 hJ hall hl hzp
     have H0 := hide (show chkGs true l = chkGs true (l.drop 0) by rw [List.drop_zero])
     go_wp2_with fail
     go_loopw [33] (fun i wi => ∃ k : Nat, k ≤ l.length ∧ i = .int .i64 k ∧ Below w.heap.size w wi ∧ Below W.heap.size W wi ∧ Hid (chkGs true l = chkGs true (l.drop k))) (fun i _ => l.length - (intOf i).toNat)
     case atStart => exact ⟨0, Nat.zero_le _, rfl, HBW.out, Below.refl _ _, H0⟩
     case round =>
      obtain ⟨k, hk, rfl, hb, hbo, HCK⟩ := hrel
      have HB := hide hb
      have HBO := hide hbo
      obtain ⟨wi, rfl⟩ : ∃ wi : World, wi = wr := ⟨_, rfl⟩
      by_cases hlt : k < l.length
      ·obtain ⟨b2, o2, t, A2, c2, hB, hbS, ht2, d0, d1, d2, hsl⟩ := KL.out.genAt hlt
       subst hB
       have hbS' : b2 < W.heap.size := hbS
       have hsg := HSSL.out l[k] (List.getElem_mem hlt)
       have hgo := fun (q : Int) => chkGs_go (c := true) (q := q) hlt
       have hno := fun (q : Int) => chkGs_no (c := true) (q := q) hlt
       obtain ⟨g, hg⟩ : ∃ g, l[k] = g := ⟨_, rfl⟩
       rw [hg] at d0 d2 hsl ht2 hsg hgo hno
       obtain ⟨kb, t', nb⟩ := g
       simp only at d0 d2 hsl ht2
       subst ht2
       have f0 := (hbo.cell (p := ⟨b2, o2 + k * 3, none⟩) hbS').trans d0
       have f1 := (hbo.cell (p := ⟨b2, o2 + k * 3 + 1, none⟩) hbS').trans d1
       have f2 := (hbo.cell (p := ⟨b2, o2 + k * 3 + 2, none⟩) hbS').trans d2
       have hts : t.size ≤ 1000000 := by rw [← size_string]; exact hsg.1
       have HSN := hide hsg.2
       have HGO := hide hgo
       have HNO := hide hno
       obtain ⟨wj, hwj⟩ : ∃ W, W = wi.alloc (.cells #[.int .i64 kb, .string t, .slice A2 nb.length c2] 62) := ⟨_, rfl⟩
       obtain ⟨e0, e1, e2⟩ := gen_cells9 hwj
       have hbj : Below wi.heap.size wi wj := by rw [hwj]; exact (Below.refl _ _).alloc (Nat.le_refl _) _
       have HBJ := hide (hb.trans (hbj.mono hb.size))
       have HBJO := hide (hbo.trans (hbj.mono hbo.size))
       have HSL := hide ((Sl.ok RRdn.ok).below hsl (hbo.trans (hbj.mono hbo.size)))
       obtain ⟨gx, hgx⟩ : ∃ g, wi.heap.size = g := ⟨_, rfl⟩
       rw [hgx] at e0 e1 e2
       clear hb hbo hbj d0 d1 d2 hsl hsg hgo hno hbS hbS' hg
       go_upto_region 8 with fail
       rw [← hwj]
       try rw [hgx]
       clear hwj hgx f0 f1 f2
       obtain ⟨q0, hq0⟩ : ∃ q, chkG (kb, t.data.toList, nb) true = q := ⟨_, rfl⟩
       have HQ := hide hq0
       have HC := hide (rCheckG_any kb t nb true A2 c2 hts HSN.out q0 hq0 wj (HMX.out.below HBJ.out) HSL.out)
       clear hq0
       go_wp2_with fail
       refine HC.out.mono ?_
       rintro e w2 ⟨rfl, hb2⟩
       have HB2 := hide (HBJ.out.trans (hb2.mono HBJ.out.size))
       have HB2O := hide (HBJO.out.trans (hb2.mono HBJO.out.size))
       clear hb2 e0 e1 e2
       by_cases hq0 : q0 = 0
       ·have HCK2 := hide (HCK.out.trans (HGO.out q0 HQ.out hq0))
        have htq : (q0 != 0) = false := by simp [hq0]
        clear hq0
        go_wp2_with fail
        go_roundw
        case rel => exact ⟨k + 1, by omega, by go_num, HB2.out, HB2O.out, HCK2⟩
        case measure => simp [intOf]; omega
       ·have htq : (q0 != 0) = true := by simp [hq0]
        have HN := hide (show q0 = q by rw [← HQL.out, HCK.out, HNO.out q0 HQ.out hq0])
        clear hq0
        go_wp2_with fail
        go_ret
        exact ⟨ret_int HN.out, HB2.out⟩
      ·have HN := hide (show 0 = q by rw [← HQL.out, HCK.out, List.drop_of_length_le (by omega)]; rfl)
       clear hb hbo
       go_wp2_with fail
       go_ret
       exact ⟨ret_int HN.out, HB.out⟩
 ·have tp : ((p.length : Int) == 0) = false := beq_false_of_ne (by omega)
  by_cases hp1 : 16 < p.length
  ·have tp2 : (16 : Int) < (p.length : Int) := by omega
   have HN0 := hide (show 2 = q by rw [← HQ0.out, chkS, if_neg (fun h => hp0 h.1), if_pos (.inl hp1)])
   clear hp0 hp1
   have HN := hide (show 2 = q from HN0.out)
   go_wp2_with fail
   go_ret
   exact ⟨ret_int HN.out, HBA.out⟩
  ·have tp2 : ¬ (16 : Int) < (p.length : Int) := by omega
   by_cases hx1 : 16 < x.length
   ·have tx2 : (16 : Int) < (x.length : Int) := by omega
    have HN0 := hide (show 2 = q by rw [← HQ0.out, chkS, if_neg (fun h => hp0 h.1), if_pos (.inr hx1)])
    clear hp0 hp1 hx1
    have HN := hide (show 2 = q from HN0.out)
    go_wp2_with fail
    go_ret
    exact ⟨ret_int HN.out, HBA.out⟩
   ·have tx2 : ¬ (16 : Int) < (x.length : Int) := by omega
    have HQS := hide (show chkGs true (p ++ x) = q by rw [← HQ0.out, chkS, if_neg (fun h => hp0 h.1), if_neg (fun h => by rcases h with h | h <;> simp only at h <;> omega)])
    clear hp0 hp1 hx1
    have K1a := hide ((Sl.ok RGen.ok).below K1.out HBA.out)
    have K2a := hide ((Sl.ok RGen.ok).below K2.out HBA.out)
    have hzp : (p.length + x.length) * 48 ≤ 140737488355328 := by omega
    have hzs : wa.heap.size > w.heap.size := hzA
    have C0 := hide c0
    have C1 := hide c1
    go_upto_region 5 with fail
    clear c0 c1
    refine region_inv [26, 27, 28, 29, 30, 31, 32, 33] (CJ w.heap.size p x A B c d wa) (by kernel_rfl) (by kernel_rfl) (fun val => CJ.start) ⟨?_, ?_, ?_, ?_, ?_, ?_, ?_, ?_, trivial⟩ ?_
    ·refine ⟨fun s hs => by cases hs <;> decide, ?_⟩
     rintro dd val W hJ hd hdep K hK
     rw [if_pos (by rfl)]
     dsimp only [putF, List.foldl, Act.put] at hK ⊢
     simp only [List.setIfInBounds_toArray, List.set_cons_zero, List.set_cons_succ] at hK ⊢
     go_simp
     exact hK.out _ _ { base := hJ.base, p26 := fun _ => rfl, l27 := hJ.l27, o28 := hJ.o28, p29 := hJ.p29, l30 := hJ.l30, o31 := hJ.o31, m32 := hJ.m32, m33 := hJ.m33 }
    ·refine ⟨fun s hs => by cases hs <;> decide, ?_⟩
     rintro dd val W hJ hd hdep K hK
     rw [if_pos (by rfl)]
     dsimp only [putF, List.foldl, Act.put] at hK ⊢
     simp only [List.setIfInBounds_toArray, List.set_cons_zero, List.set_cons_succ] at hK ⊢
     have e26 := hJ.p26 (hdep ⟨0, .data⟩ (by simp) rfl)
     have m0 : W.cell? ⟨w.heap.size, 0, none⟩ = some (.slice A p.length c) := (hJ.base.cell (p := ⟨w.heap.size, 0, none⟩) hzs).trans C0.out
     simp only [e26] at hK ⊢
     go_simp
     exact hK.out _ _ { base := hJ.base, p26 := hJ.p26, l27 := fun _ => rfl, o28 := hJ.o28, p29 := hJ.p29, l30 := hJ.l30, o31 := hJ.o31, m32 := hJ.m32, m33 := hJ.m33 }
    ·refine ⟨fun s hs => by cases hs <;> decide, ?_⟩
     rintro dd val W hJ hd hdep K hK
     rw [if_pos (by rfl)]
     dsimp only [putF, List.foldl, Act.put] at hK ⊢
     simp only [List.setIfInBounds_toArray, List.set_cons_zero, List.set_cons_succ] at hK ⊢
     have e27 := hJ.l27 (hdep ⟨1, .data⟩ (by simp) rfl)
     simp only [e27] at hK ⊢
     have hsp := (Sl.ok RGen.ok).mono K1a.out (fun k hk => hJ.base.block k hk) (fun _ hk => hk)
     refine wp_copy RGen.ok W (.const (.slice none 0 0)) (.tmp 27) 50 rfl wa.heap.size 62 (.agg #[.int .i64 0, .string ⟨#[]⟩, .slice none 0 0]) 48 Tryz.underlying50 info_gen rfl (by decide) (Lt wa.heap.size) (Lt wa.heap.size) (fun _ _ h => h) rfl A c p rfl hsp (fun k hk => Nat.lt_of_lt_of_le hk hJ.base.size) (by omega) hJ.base.size ?_
     intro v' w' hown hb hat
     have hbb : Below wa.heap.size wa w' := hJ.base.trans (hb.mono hJ.base.size)
     exact hK.out v' w' { base := hbb, p26 := hJ.p26, l27 := hJ.l27, o28 := fun _ _ => hown, p29 := hJ.p29, l30 := hJ.l30, o31 := fun h5 => (hJ.o31 h5).below RGen.ok (fun k hk => Nat.lt_of_lt_of_le hk hJ.base.size) hb, m32 := hJ.m32, m33 := hJ.m33 }
    ·refine ⟨fun s hs => by cases hs <;> decide, ?_⟩
     rintro dd val W hJ hd hdep K hK
     rw [if_pos (by rfl)]
     dsimp only [putF, List.foldl, Act.put] at hK ⊢
     simp only [List.setIfInBounds_toArray, List.set_cons_zero, List.set_cons_succ] at hK ⊢
     go_simp
     exact hK.out _ _ { base := hJ.base, p26 := hJ.p26, l27 := hJ.l27, o28 := hJ.o28, p29 := fun _ => rfl, l30 := hJ.l30, o31 := hJ.o31, m32 := hJ.m32, m33 := hJ.m33 }
    ·refine ⟨fun s hs => by cases hs <;> decide, ?_⟩
     rintro dd val W hJ hd hdep K hK
     rw [if_pos (by rfl)]
     dsimp only [putF, List.foldl, Act.put] at hK ⊢
     simp only [List.setIfInBounds_toArray, List.set_cons_zero, List.set_cons_succ] at hK ⊢
     have e29 := hJ.p29 (hdep ⟨3, .data⟩ (by simp) rfl)
     have m1 : W.cell? ⟨w.heap.size, 1, none⟩ = some (.slice B x.length d) := (hJ.base.cell (p := ⟨w.heap.size, 1, none⟩) hzs).trans C1.out
     simp only [e29] at hK ⊢
     go_simp
     exact hK.out _ _ { base := hJ.base, p26 := hJ.p26, l27 := hJ.l27, o28 := hJ.o28, p29 := hJ.p29, l30 := fun _ => rfl, o31 := hJ.o31, m32 := hJ.m32, m33 := hJ.m33 }
    ·refine ⟨fun s hs => by cases hs <;> decide, ?_⟩
     rintro dd val W hJ hd hdep K hK
     rw [if_pos (by rfl)]
     dsimp only [putF, List.foldl, Act.put] at hK ⊢
     simp only [List.setIfInBounds_toArray, List.set_cons_zero, List.set_cons_succ] at hK ⊢
     have D2 := hdep ⟨2, .data⟩ (by simp) rfl
     have e30 := hJ.l30 (hdep ⟨4, .data⟩ (by simp) rfl)
     have hown := hJ.o28 D2 hd
     simp only [e30] at hK ⊢
     have hsx := (Sl.ok RGen.ok).mono K2a.out (fun k hk => hJ.base.block k hk) (fun _ hk => hk)
     refine wp_appsl RGen.ok W (.tmp 28) (.tmp 30) 50 rfl wa.heap.size 62 (.agg #[.int .i64 0, .string ⟨#[]⟩, .slice none 0 0]) 48 Tryz.underlying50 info_gen rfl (by decide) (Lt wa.heap.size) (val 28) p rfl hown B d x rfl hsx (fun k hk => Nat.lt_of_lt_of_le hk hJ.base.size) hzp (by simp [maxLen]; omega) hJ.base.size ?_
     intro v' w' hown' hb
     exact hK.out v' w' { base := hJ.base.trans hb, p26 := hJ.p26, l27 := hJ.l27, o28 := fun _ h => (by cases h), p29 := hJ.p29, l30 := hJ.l30, o31 := fun _ => hown', m32 := hJ.m32, m33 := hJ.m33 }
    ·refine ⟨fun s hs => by cases hs <;> decide, ?_⟩
     rintro dd val W hJ hd hdep K hK
     rw [if_pos (by rfl)]
     dsimp only [putF, List.foldl, Act.put] at hK ⊢
     simp only [List.setIfInBounds_toArray, List.set_cons_zero, List.set_cons_succ] at hK ⊢
     have D5 := hdep ⟨5, .data⟩ (by simp) rfl
     obtain ⟨B9, cb, e31⟩ := ((hJ.o31 D5).sl RGen.ok).shape
     obtain ⟨n9, hn9⟩ : ∃ n, (p ++ x).length = n := ⟨_, rfl⟩
     rw [hn9] at e31
     simp only [e31] at hK ⊢
     go_simp
     exact hK.out _ _ { base := hJ.base, p26 := hJ.p26, l27 := hJ.l27, o28 := hJ.o28, p29 := hJ.p29, l30 := hJ.l30, o31 := hJ.o31, m32 := fun _ => (by rw [hn9]; rfl), m33 := hJ.m33 }
    ·refine ⟨fun s hs => by cases hs <;> decide, ?_⟩
     rintro dd val W hJ hd hdep K hK
     rw [if_pos (by rfl)]
     dsimp only [putF, List.foldl, Act.put] at hK ⊢
     simp only [List.setIfInBounds_toArray, List.set_cons_zero, List.set_cons_succ] at hK ⊢
     go_simp
     exact hK.out _ _ { base := hJ.base, p26 := hJ.p26, l27 := hJ.l27, o28 := hJ.o28, p29 := hJ.p29, l30 := hJ.l30, o31 := hJ.o31, m32 := hJ.m32, m33 := fun _ => rfl }
    ·rintro dd val W hall hJ
     have hown := hJ.o31 (hall 5 (by decide))
     have hslc : Sl RGen 3 W (Lt W.heap.size) (p ++ x) [val 31] := (Sl.ok RGen.ok).mono (hown.sl RGen.ok) (fun _ _ => rfl) (fun k hk => by
      rcases hk with hk | hk
      ·exact Nat.lt_of_lt_of_le hk hJ.base.size
      ·exact hk.2)
     obtain ⟨A9, c9, e31⟩ := hslc.shape
     rw [e31] at hslc
     have e32 := hJ.m32 (hall 6 (by decide))
     have e33 := hJ.m33 (hall 7 (by decide))
     obtain ⟨l, hl⟩ : ∃ l, p ++ x = l := ⟨_, rfl⟩
     rw [hl] at e31 e32 hslc
     have hll : l.length ≤ 32 := by rw [← hl, List.length_append]; omega
     have HQL := hide (show chkGs true l = q by rw [← hl]; exact HQS.out)
     have HSSL := hide (show MedGs l by rw [← hl]; exact HSS.out)
     have KL := hide hslc
     have HBW := hide (HBA.out.trans (hJ.base.mono HBA.out.size))
     obtain ⟨-, hnc9, hcm9⟩ := hslc.len_
     unfold maxLen at hcm9
     dsimp only [putF, List.foldl, Act.put]
     simp only [List.setIfInBounds_toArray, List.set_cons_zero, List.set_cons_succ]
     simp only [e31, e32, e33]
     clear hown hslc e31 e32 e33 hJ hall hl hzp
     have H0 := hide (show chkGs true l = chkGs true (l.drop 0) by rw [List.drop_zero])
     go_wp2_with fail
     go_loopw [33] (fun i wi => ∃ k : Nat, k ≤ l.length ∧ i = .int .i64 k ∧ Below w.heap.size w wi ∧ Below W.heap.size W wi ∧ Hid (chkGs true l = chkGs true (l.drop k))) (fun i _ => l.length - (intOf i).toNat)
     case atStart => exact ⟨0, Nat.zero_le _, rfl, HBW.out, Below.refl _ _, H0⟩
     case round =>
      obtain ⟨k, hk, rfl, hb, hbo, HCK⟩ := hrel
      have HB := hide hb
      have HBO := hide hbo
      obtain ⟨wi, rfl⟩ : ∃ wi : World, wi = wr := ⟨_, rfl⟩
      by_cases hlt : k < l.length
      ·obtain ⟨b2, o2, t, A2, c2, hB, hbS, ht2, d0, d1, d2, hsl⟩ := KL.out.genAt hlt
       subst hB
       have hbS' : b2 < W.heap.size := hbS
       have hsg := HSSL.out l[k] (List.getElem_mem hlt)
       have hgo := fun (q : Int) => chkGs_go (c := true) (q := q) hlt
       have hno := fun (q : Int) => chkGs_no (c := true) (q := q) hlt
       obtain ⟨g, hg⟩ : ∃ g, l[k] = g := ⟨_, rfl⟩
       rw [hg] at d0 d2 hsl ht2 hsg hgo hno
       obtain ⟨kb, t', nb⟩ := g
       simp only at d0 d2 hsl ht2
       subst ht2
       have f0 := (hbo.cell (p := ⟨b2, o2 + k * 3, none⟩) hbS').trans d0
       have f1 := (hbo.cell (p := ⟨b2, o2 + k * 3 + 1, none⟩) hbS').trans d1
       have f2 := (hbo.cell (p := ⟨b2, o2 + k * 3 + 2, none⟩) hbS').trans d2
       have hts : t.size ≤ 1000000 := by rw [← size_string]; exact hsg.1
       have HSN := hide hsg.2
       have HGO := hide hgo
       have HNO := hide hno
       obtain ⟨wj, hwj⟩ : ∃ W, W = wi.alloc (.cells #[.int .i64 kb, .string t, .slice A2 nb.length c2] 62) := ⟨_, rfl⟩
       obtain ⟨e0, e1, e2⟩ := gen_cells9 hwj
       have hbj : Below wi.heap.size wi wj := by rw [hwj]; exact (Below.refl _ _).alloc (Nat.le_refl _) _
       have HBJ := hide (hb.trans (hbj.mono hb.size))
       have HBJO := hide (hbo.trans (hbj.mono hbo.size))
       have HSL := hide ((Sl.ok RRdn.ok).below hsl (hbo.trans (hbj.mono hbo.size)))
       obtain ⟨gx, hgx⟩ : ∃ g, wi.heap.size = g := ⟨_, rfl⟩
       rw [hgx] at e0 e1 e2
       clear hb hbo hbj d0 d1 d2 hsl hsg hgo hno hbS hbS' hg
       go_upto_region 8 with fail
       rw [← hwj]
       try rw [hgx]
       clear hwj hgx f0 f1 f2
       obtain ⟨q0, hq0⟩ : ∃ q, chkG (kb, t.data.toList, nb) true = q := ⟨_, rfl⟩
       have HQ := hide hq0
       have HC := hide (rCheckG_any kb t nb true A2 c2 hts HSN.out q0 hq0 wj (HMX.out.below HBJ.out) HSL.out)
       clear hq0
       go_wp2_with fail
       refine HC.out.mono ?_
       rintro e w2 ⟨rfl, hb2⟩
       have HB2 := hide (HBJ.out.trans (hb2.mono HBJ.out.size))
       have HB2O := hide (HBJO.out.trans (hb2.mono HBJO.out.size))
       clear hb2 e0 e1 e2
       by_cases hq0 : q0 = 0
       ·have HCK2 := hide (HCK.out.trans (HGO.out q0 HQ.out hq0))
        have htq : (q0 != 0) = false := by simp [hq0]
        clear hq0
        go_wp2_with fail
        go_roundw
        case rel => exact ⟨k + 1, by omega, by go_num, HB2.out, HB2O.out, HCK2⟩
        case measure => simp [intOf]; omega
       ·have htq : (q0 != 0) = true := by simp [hq0]
        have HN := hide (show q0 = q by rw [← HQL.out, HCK.out, HNO.out q0 HQ.out hq0])
        clear hq0
        go_wp2_with fail
        go_ret
        exact ⟨ret_int HN.out, HB2.out⟩
      ·have HN := hide (show 0 = q by rw [← HQL.out, HCK.out, List.drop_of_length_le (by omega)]; rfl)
       clear hb hbo
       go_wp2_with fail
       go_ret
       exact ⟨ret_int HN.out, HB.out⟩
end Go.Proofs.YtahamclodagihaaGreatDoor
