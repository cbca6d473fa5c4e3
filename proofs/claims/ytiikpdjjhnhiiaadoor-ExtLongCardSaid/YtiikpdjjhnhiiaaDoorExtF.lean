/- The reference's CheckExtensions. -/
import Derived.Test.YtiikpdjjhnhiiaaDoorExtC
namespace Go.Proofs.YtiikpdjjhnhiiaaDoor
open Go.RowKit

theorem findF_take {l : List Ext} {k : Nat} {id : List UInt8} : findF (l.take k) id = none ↔ id ∉ (l.take k).map (·.1) := by
  constructor
  · intro h hm
    obtain ⟨hj, hf⟩ := findF_idx hm
    rw [h] at hf; cases hf
  · exact findF_none
theorem rFind_take (l : List Ext) (k : Nat) (hk : k ≤ l.length) (id : ByteArray) (A : Option Addr) (n c : Nat) (o : Option Ext) (ho : findF (l.take k) id.data.toList = o) (w W : World) (h : Sl RExt 3 w (Lt w.heap.size) l [.slice A n c]) (hb : Below w.heap.size w W) :
    Calls Tryd.prog 37 #[.slice A k c, .string id] W fun e w' => e = .returned (findR o) ∧ Below W.heap.size W w' := by
  obtain ⟨rfl, _⟩ := h.len_
  have h1 : Sl RExt 3 w (Lt w.heap.size) (l.take k) [.slice A (l.take k).length c] := by
    have h2 : Sl RExt 3 w (Lt w.heap.size) (l.take k ++ l.drop k) [.slice A l.length c] := by rw [List.take_append_drop]; exact h
    exact h2.take_
  have h3 : Sl RExt 3 W (Lt W.heap.size) (l.take k) [.slice A (l.take k).length c] := (Sl.ok RExt.ok).mono h1 (fun j hj => hb.block j hj) (fun j hj => Nat.lt_of_lt_of_le hj hb.size)
  have := rFind_any (l.take k) id A c W h3
  rw [List.length_take, Nat.min_eq_left hk, ho] at this
  exact this
theorem roidv_v (s : ByteArray) (hs : s.size ≤ 1000000) (p : Bool) (hp : validB s.data.toList = p) (w : World) :
    Calls Tryd.prog 85 #[.string s] w fun e w' => e = .returned (.bool p) ∧ Below w.heap.size w w' := hp ▸ oidRValid_any s hs w
theorem rtchk_v (s : ByteArray) (hs : s.size ≤ 1000000) (q : Int) (hq : checkF s.data.toList = q) (w : World) :
    Calls Tryd.prog 93 #[.string s] w fun e w' => e = .returned (.int .i64 q) ∧ Below w.heap.size w w' := hq ▸ rTCheck_any s (by omega) w
def foundV (o : Option Ext) : Value := match o with | none => noExt | some x => extV x
theorem findR_eq (o : Option Ext) : findR o = .tuple #[foundV o, .bool o.isSome] := by cases o <;> rfl
theorem cell_bel_alloc {w wn : World} {g j : Nat} {v : Value} (hb : Below w.heap.size w wn) (hg : g < w.heap.size) (h : w.cell? ⟨g, j, none⟩ = some v) : ∀ ob, (wn.alloc ob).cell? ⟨g, j, none⟩ = some v := fun ob => by
  rw [World.cell?_alloc_lt _ _ _ (by show g < wn.heap.size; have := hb.size; omega)]
  exact (hb.cell (p := ⟨g, j, none⟩) hg).trans h
theorem cell_store3 {W : World} {g d j : Nat} {v : Value} (hne : g ≠ d) (h : W.cell? ⟨g, j, none⟩ = some v) (a b c : Value) : (((W.setCell ⟨d, 0, none⟩ a).setCell ⟨d, 1, none⟩ b).setCell ⟨d, 2, none⟩ c).cell? ⟨g, j, none⟩ = some v := by
  have e1 := Below.heap_setCell ((W.setCell ⟨d, 0, none⟩ a).setCell ⟨d, 1, none⟩ b) ⟨d, 2, none⟩ c g hne
  have e2 := Below.heap_setCell (W.setCell ⟨d, 0, none⟩ a) ⟨d, 1, none⟩ b g hne
  have e3 := Below.heap_setCell W ⟨d, 0, none⟩ a g hne
  exact (World.cell?_of_block (w := W) (a := ⟨g, j, none⟩) (e1.trans (e2.trans e3))).trans h
theorem foundV_agg (o : Option Ext) : ∃ a b c, foundV o = .agg #[.string a, .bool b, .string c] := by cases o <;> exact ⟨_, _, _, rfl⟩

set_option maxRecDepth 100000 in
set_option maxHeartbeats 8000000 in
theorem rEach_any (l : List Ext) (A : Option Addr) (c : Nat) (w : World) (h : Sl RExt 3 w (Lt w.heap.size) l [.slice A l.length c]) (hsm : SmallX l) (hN : l.length ≤ 1000000) :
    Calls Tryd.prog 73 #[.slice A l.length c] w fun e w' => e = .returned (.int .i64 (chkX [] l)) ∧ Below w.heap.size w w' := by
  obtain ⟨-, hnc, hcm⟩ := h.len_
  unfold maxLen at hcm
  obtain ⟨r, hr⟩ : ∃ r, chkX [] l = r := ⟨_, rfl⟩
  rw [hr]
  have K := hide h
  have HSM := hide hsm
  have H0 := hide (show r = chkX ((l.take 0).map (·.1)) (l.drop 0) from hr.symm)
  clear h hsm hr
  go_enter Tryd.func73, Tryd.ntmps73
  go_wp2_with fail
  go_loopw [10] (fun i wr => ∃ k : Nat, k ≤ l.length ∧ i = .int .i64 k ∧ Below w.heap.size w wr ∧ Hid (r = chkX ((l.take k).map (·.1)) (l.drop k))) (fun i _ => l.length - (intOf i).toNat)
  case atStart => exact ⟨0, by omega, rfl, Below.refl _ _, H0⟩
  case round =>
    obtain ⟨k, hk, rfl, hb, H⟩ := hrel
    have HB := hide hb
    have hzr := hb.size
    clear hb
    by_cases hlt : k < l.length
    · obtain ⟨b, off, hA, hbS, e0, e1, e2⟩ := K.out.extAt hlt
      subst hA
      obtain ⟨hs0, hs2⟩ := HSM.out l[k] (List.getElem_mem hlt)
      have hX := H.out.trans (chkX_at hlt)
      obtain ⟨⟨id, cr, va⟩, hel⟩ : ∃ e, l[k] = e := ⟨_, rfl⟩
      rw [hel] at e0 e1 e2 hs0 hs2 hX
      simp only at e0 e1 e2 hs0 hs2 hX
      obtain ⟨x1, hx1⟩ : ∃ x : ByteArray, x = ⟨id.toArray⟩ := ⟨_, rfl⟩
      obtain ⟨x2, hx2⟩ : ∃ x : ByteArray, x = ⟨va.toArray⟩ := ⟨_, rfl⟩
      have hid : id = x1.data.toList := by rw [hx1]
      have hva : va = x2.data.toList := by rw [hx2]
      rw [← hx1] at e0
      rw [← hx2] at e2
      rw [hid] at hs0 hX
      rw [hva] at hs2 hX
      rw [size_string] at hs0 hs2
      have hbS' : b < w.heap.size := hbS
      have p0 := (HB.out.cell (p := ⟨b, off + k * 3, none⟩) hbS').trans e0
      have p1 := (HB.out.cell (p := ⟨b, off + k * 3 + 1, none⟩) hbS').trans e1
      have p2 := (HB.out.cell (p := ⟨b, off + k * 3 + 2, none⟩) hbS').trans e2
      obtain ⟨p, hp⟩ : ∃ p, validB x1.data.toList = p := ⟨_, rfl⟩
      obtain ⟨q, hq⟩ : ∃ q, checkF x2.data.toList = q := ⟨_, rfl⟩
      rw [hp, hq] at hX
      have HX := hide hX
      have HP := hide hp
      have HQ := hide hq
      obtain ⟨o, ho⟩ : ∃ o, findF (l.take k) x1.data.toList = o := ⟨_, rfl⟩
      have HMEM := hide (show o = none ↔ x1.data.toList ∉ (l.take k).map (·.1) by rw [← ho]; exact findF_take)
      obtain ⟨wo, rfl⟩ : ∃ wo : World, wo = wr := ⟨_, rfl⟩
      have HFC := hide (fun W (hW : Below wo.heap.size wo W) => rFind_take l k hk x1 _ _ c o ho w W K.out (HB.out.trans (hW.mono hzr)))
      obtain ⟨fa, fb, fc, hfv⟩ := foundV_agg o
      have HFR := hide (show findR o = .tuple #[.agg #[.string fa, .bool fb, .string fc], .bool o.isSome] by rw [findR_eq, hfv])
      obtain ⟨f, hf⟩ : ∃ f, o.isSome = f := ⟨_, rfl⟩
      rw [hf] at HFR
      have HF := hide hf
      clear e0 e1 e2 hx1 hx2 hel hid hva hX hp hq ho hf hfv
      go_upto_region 4 with fail
      obtain ⟨wB, hwB⟩ : ∃ W, W = wo.alloc (.cells #[.string x1, .bool cr, .string x2] 49) := ⟨_, rfl⟩
      have q0 : wB.cell? ⟨wo.heap.size, 0, none⟩ = some (.string x1) := by rw [hwB, World.cell?_alloc_new]; rfl
      have q2 : wB.cell? ⟨wo.heap.size, 2, none⟩ = some (.string x2) := by rw [hwB, World.cell?_alloc_new]; rfl
      have HBo := hide (show Below wo.heap.size wo wB by rw [hwB]; exact (Below.refl _ _).alloc (Nat.le_refl _) _)
      have hzB : wo.heap.size < wB.heap.size := by rw [hwB]; simp
      rw [← hwB]
      clear hwB p0 p1 p2
      obtain ⟨gx, hgx⟩ : ∃ g, wo.heap.size = g := ⟨_, rfl⟩
      rw [hgx] at q0 q2 hzB ⊢
      have hgx2 : wo.heap.size ≤ gx := by omega
      clear hgx
      go_wp2_with fail
      refine (roidv_v x1 hs0 p HP.out _).mono ?_
      rintro e w5 ⟨rfl, hb5⟩
      have s0 := (hb5.cell (p := ⟨gx, 0, none⟩) hzB).trans q0
      have s2 := (hb5.cell (p := ⟨gx, 2, none⟩) hzB).trans q2
      have hz5 := Nat.lt_of_lt_of_le hzB hb5.size
      have HB5o := hide (HBo.out.trans (hb5.mono HBo.out.size))
      have HB5 := hide (HB.out.trans (HB5o.out.mono hzr))
      clear hb5 q0 q2 hzB
      cases p
      · have HY := hide (HX.out.trans (if_pos rfl))
        go_wp2_with fail
        go_ret
        exact ⟨ret_int HY.out.symm, HB5.out⟩
      · have HX1 := hide (HX.out.trans (if_neg (by simp)))
        go_upto_region 6 with fail
        have hkc : k ≤ c := by omega
        have hkci : (k : Int) ≤ (c : Int) := by omega
        go_cut [6] from 11 (fun s6 wc => s6 = .bool f ∧ Below w5.heap.size w5 wc)
        case first =>
          have HFD := hide (fun W (hW : Below w5.heap.size w5 W) => HFC.out W (HB5o.out.trans (hW.mono (Nat.le_trans hgx2 (Nat.le_of_lt hz5)))))
          have sA : ∀ ob, (w5.alloc ob).cell? ⟨gx, 0, none⟩ = some (.string x1) := fun ob => by rw [World.cell?_alloc_lt _ _ _ (by exact hz5)]; exact s0
          go_region_held3 (fun W => W.cell? ⟨gx, 0, none⟩ = some (.string x1))
            (first | exact hS1 | exact s0 | exact sA _ | exact hS2 _ | exact cell_store3 (Nat.ne_of_lt hz5) hS1 _ _ _)
            (first
              | (go_at_call 37; refine (HFD.out _ ((Below.refl w5.heap.size w5).drew)).mono ?_; rintro e wn ⟨rfl, hbn⟩; rw [HFR.out]; have hbW : Below w5.heap.size w5 wn := ((Below.refl w5.heap.size w5).drew).trans (hbn.mono ((Below.refl w5.heap.size w5).drew).size); have hS1 : wn.cell? ⟨gx, 0, none⟩ = some (.string x1) := (hbW.cell (p := ⟨gx, 0, none⟩) hz5).trans s0; have hS2 := cell_bel_alloc hbW hz5 s0)
              | (go_at_call 37; refine (HFD.out _ (((Below.refl w5.heap.size w5).alloc (Nat.le_refl _) (.cells #[.string ⟨#[]⟩, .bool false, .string ⟨#[]⟩] 49)).drew)).mono ?_; rintro e wn ⟨rfl, hbn⟩; rw [HFR.out]; have hbW : Below w5.heap.size w5 wn := (((Below.refl w5.heap.size w5).alloc (Nat.le_refl _) (.cells #[.string ⟨#[]⟩, .bool false, .string ⟨#[]⟩] 49)).drew).trans (hbn.mono (((Below.refl w5.heap.size w5).alloc (Nat.le_refl _) (.cells #[.string ⟨#[]⟩, .bool false, .string ⟨#[]⟩] 49)).drew).size); have hS1 : wn.cell? ⟨gx, 0, none⟩ = some (.string x1) := (hbW.cell (p := ⟨gx, 0, none⟩) hz5).trans s0; have hS2 := cell_bel_alloc hbW hz5 s0; obtain ⟨y0, y1, y2, z0, z1, z2⟩ := (ResX.below (W := (w5.alloc (.cells #[.string ⟨#[]⟩, .bool false, .string ⟨#[]⟩] 49)).drew) (resX_new w5) hbn).facts)
              | fail)
          all_goals
            go_wp2_with fail
            go_meet
            case rel => first | exact ⟨rfl, hbW.alloc hbW.size _⟩ | exact ⟨rfl, below_store3' hbW (Nat.le_refl _) _ _ _⟩
        case rest =>
          obtain ⟨rfl, hbc⟩ := hcut
          have t2 := (hbc.cell (p := ⟨gx, 2, none⟩) hz5).trans s2
          have HBC := hide (HB5.out.trans (hbc.mono HB5.out.size))
          clear hbc s0 s2
          cases f
          · have HX2 := hide (HX1.out.trans (if_neg (HMEM.out.1 (by cases o; rfl; exact absurd HF.out (by simp)))))
            go_wp2_with fail
            refine (rtchk_v x2 hs2 q HQ.out _).mono ?_
            rintro e w7 ⟨rfl, hb7⟩
            have HB7 := hide (HBC.out.trans (hb7.mono HBC.out.size))
            clear hb7
            by_cases hq0 : q = 0
            · have HY := hide (HX2.out.trans (if_neg (by simpa using hq0)))
              have ht : (q != 0) = false := by simp [hq0]
              clear hq0
              go_wp2_with fail
              go_roundw
              case rel => exact ⟨k + 1, by omega, by go_num, HB7.out, HY⟩
              case measure => simp [intOf]; omega
            · have HY := hide (HX2.out.trans (if_pos hq0))
              have ht : (q != 0) = true := by simp [hq0]
              clear hq0
              go_wp2_with fail
              go_ret
              exact ⟨ret_int HY.out.symm, HB7.out⟩
          · have HY := hide (HX1.out.trans (if_pos (Classical.byContradiction fun hn => by
              have := HMEM.out.2 hn
              rw [this] at HF
              exact absurd HF.out (by simp))))
            go_wp2_with fail
            go_ret
            exact ⟨ret_int HY.out.symm, HBC.out⟩
    · have HY := hide (show r = 0 by rw [H.out, List.drop_of_length_le (by omega)]; rfl)
      go_wp2_with fail
      go_ret
      exact ⟨ret_int HY.out.symm, HB.out⟩

set_option maxHeartbeats 1000000 in
theorem rECheck_any (l : List Ext) (A : Option Addr) (c : Nat) (w : World) (h : Sl RExt 3 w (Lt w.heap.size) l [.slice A l.length c]) (hsm : SmallX l) :
    Calls Tryd.prog 35 #[.slice A l.length c] w fun e w' => e = .returned (.int .i64 (chkE l)) ∧ Below w.heap.size w w' := by
  obtain ⟨-, hnc, hcm⟩ := h.len_
  unfold maxLen at hcm
  obtain ⟨r, hr⟩ : ∃ r, chkE l = r := ⟨_, rfl⟩
  rw [hr]
  have K := hide h
  have HSM := hide hsm
  clear h hsm
  by_cases h0 : l.length = 0
  · have HY := hide (show r = 7 by rw [← hr, chkE, if_pos h0])
    have ht : ((l.length : Int) == 0) = true := by rw [h0]; rfl
    clear h0 hr
    go_enter Tryd.func35, Tryd.ntmps35
    go_wp2_with fail
    go_ret
    exact ⟨ret_int HY.out.symm, Below.refl _ _⟩
  · have ht : ((l.length : Int) == 0) = false := beq_false_of_ne (by omega)
    by_cases h24 : 24 < l.length
    · have HY := hide (show r = 2 by rw [← hr, chkE, if_neg h0, if_pos h24])
      clear h0 hr
      go_enter Tryd.func35, Tryd.ntmps35
      go_wp2_with fail
      go_ret
      exact ⟨ret_int HY.out.symm, Below.refl _ _⟩
    · have HY := hide (show r = chkX [] l by rw [← hr, chkE, if_neg h0, if_neg h24])
      clear hr
      go_enter Tryd.func35, Tryd.ntmps35
      go_wp2_with fail
      refine (rEach_any l A c _ K.out HSM.out (by omega)).mono ?_
      rintro e w1 ⟨rfl, hb1⟩
      go_wp2_with fail
      go_ret
      exact ⟨ret_int HY.out.symm, hb1⟩
end Go.Proofs.YtiikpdjjhnhiiaaDoor
