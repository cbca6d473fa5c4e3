/- The law NameMany, its walk. -/
import Derived.Test.YtepibepgfackkaaDoorNamT
import Derived.Test.YtepibepgfackkaaDoorOidI
import Derived.Deep.RegionLaw
namespace Go.Proofs.YtepibepgfackkaaDoor
open Go.RowKit

theorem Check_v (n : Name) (A : Option Addr) (c : Nat) (q : Int) (hq : chkN n = q) (w : World) (hmx : Mx w) (h : Sl RRdn 1 w (Lt w.heap.size) n [.slice A n.length c]) (hsm : SmallN n) :
    Calls Tryd.prog 10 #[.agg #[.slice A n.length c]] w fun e w' => e = .returned (.int .i64 q) ∧ Below w.heap.size w w' := hq ▸ Check_any n A c w hmx h hsm
theorem rCheck_v (n : Name) (A : Option Addr) (c : Nat) (q : Int) (hq : chkN n = q) (w : World) (hmx : Mx w) (h : Sl RRdn 1 w (Lt w.heap.size) n [.slice A n.length c]) (hsm : SmallN n) :
    Calls Tryd.prog 11 #[.agg #[.slice A n.length c]] w fun e w' => e = .returned (.int .i64 q) ∧ Below w.heap.size w w' := hq ▸ rCheck_any n A c w hmx h hsm
/-- a slice of one attribute that has just been made -/
theorem sl_att (w : World) (t : TypeId) (a : Attr) : Sl RAttr 3 (w.alloc (.cells #[.string ⟨a.1.toArray⟩, .int .i64 a.2.1, .string ⟨a.2.2.toArray⟩] t)) (fun k => k = w.heap.size) [a] [.slice (some ⟨w.heap.size, 0, none⟩) 1 1] := by
  refine ⟨_, 1, rfl, Nat.le_refl _, by simp [maxLen], fun _ => ⟨w.heap.size, 0, rfl, rfl, fun i x hx => ?_⟩⟩
  obtain ⟨cs, h1, h2⟩ := news_att w (fun k => k = w.heap.size) t a i x hx
  refine ⟨cs, h1, fun j u hu => ?_⟩
  have := h2 j u hu
  rw [Addr.add_lit] at this
  exact this
theorem news_one2 {w : World} {ob : Obj} {S : Nat → Prop} {x : Value} {y : List Attr} {t : TypeId} (h : RRdn ((w.alloc ob).alloc (.cells #[x] t)) S y [x]) :
    ∀ i z, [y][i]? = some z → ∃ cs, RRdn ((w.alloc ob).alloc (.cells #[x] t)) S z cs ∧ ∀ j u, cs[j]? = some u → ((w.alloc ob).alloc (.cells #[x] t)).cell? ((⟨w.heap.size + 1, 0, none⟩ : Addr).add (i * 1 + j)) = some u := by
  have := news_one (R := RRdn) h
  rw [World.size_alloc] at this
  exact this

/-- a cell that holds a relative name -/
def RB (g : Nat) (v : Value) (W : World) : Prop := W.heap[g]? = some (.cells #[v] 27 (0, 0))
theorem RB.facts {g : Nat} {v : Value} {W : World} (h : RB g v W) : W.cell? ⟨g, 0, none⟩ = some v ∧ W.frozen? ⟨g, 0, none⟩ = false := by
  unfold RB at h
  simp [World.cell?, World.frozen?, h]
theorem RB.lt {g : Nat} {v : Value} {W : World} (h : RB g v W) : g < W.heap.size := (Array.getElem?_eq_some_iff.1 h).1
theorem RB.below {g : Nat} {v : Value} {W W' : World} (h : RB g v W) (hb : Below W.heap.size W W') : RB g v W' := (hb.block g h.lt).trans h
theorem RB.store {g : Nat} {v : Value} {W : World} (h : RB g v W) (u : Value) : RB g u (W.setCell ⟨g, 0, none⟩ u) := by
  unfold RB at *
  simp [World.setCell, Array.getElem?_modify, h]
theorem news_att3 (w : World) (S : Nat → Prop) (t : TypeId) (X V : ByteArray) (k : Int) :
    ∀ i y, [(X.data.toList, k, V.data.toList)][i]? = some y → ∃ cs, RAttr (w.alloc (.cells #[.string X, .int .i64 k, .string V] t)) S y cs ∧ ∀ j u, cs[j]? = some u → (w.alloc (.cells #[.string X, .int .i64 k, .string V] t)).cell? ((⟨w.heap.size, 0, none⟩ : Addr).add (i * 3 + j)) = some u :=
  news_att w S t (X.data.toList, k, V.data.toList)

theorem sl_one_rdn (w : World) (t1 t2 : TypeId) (a : Attr) :
    Sl RRdn 1 ((w.alloc (.cells #[.string ⟨a.1.toArray⟩, .int .i64 a.2.1, .string ⟨a.2.2.toArray⟩] t1)).alloc (.cells #[.slice (some ⟨w.heap.size, 0, none⟩) 1 1] t2))
      (Lt ((w.alloc (.cells #[.string ⟨a.1.toArray⟩, .int .i64 a.2.1, .string ⟨a.2.2.toArray⟩] t1)).alloc (.cells #[.slice (some ⟨w.heap.size, 0, none⟩) 1 1] t2)).heap.size) [[a]] [.slice (some ⟨w.heap.size + 1, 0, none⟩) 1 1] := by
  refine ⟨_, 1, rfl, Nat.le_refl _, by simp [maxLen], fun _ => ⟨w.heap.size + 1, 0, rfl, by show _ < _; simp, fun i q hq => ?_⟩⟩
  match i, hq with
  | 0, hq =>
    simp at hq; subst hq
    refine ⟨[.slice (some ⟨w.heap.size, 0, none⟩) 1 1], (Sl.ok RAttr.ok).mono (sl_att w t1 a) (fun j hj => Below.heap_alloc _ _ j (by have : j = w.heap.size := hj; rw [this]; simp)) (fun j hj => by have : j = w.heap.size := hj; rw [this]; show _ < _; simp; omega), fun j u hu => ?_⟩
    match j, hu with
    | 0, hu =>
      simp at hu; subst hu
      have := World.cell?_alloc_new (w.alloc (.cells #[.string ⟨a.1.toArray⟩, .int .i64 a.2.1, .string ⟨a.2.2.toArray⟩] t1)) #[.slice (some ⟨w.heap.size, 0, none⟩) 1 1] t2 0
      rw [World.size_alloc] at this
      exact this
theorem oneC {P : Program} {f : FuncId} {args : Array Value} {W wx : World} {g : Nat} {u : Value} {q : Int} (hc : Calls P f args W fun e w' => e = .returned (.int .i64 q) ∧ Below W.heap.size W w')
    (h1 : W.cell? ⟨g, 0, none⟩ = some u) (h2 : Mx W) (h3 : Below wx.heap.size wx W) :
    Calls P f args W fun e w9 => e = .returned (.int .i64 q) ∧ w9.cell? ⟨g, 0, none⟩ = some u ∧ Mx w9 ∧ Below wx.heap.size wx w9 :=
  hc.mono fun _ _ he => ⟨he.1, cell_grows he.2 _ _ h1, h2.below he.2, h3.trans (he.2.mono h3.size)⟩


set_option maxRecDepth 100000 in
set_option maxHeartbeats 16000000 in
theorem NameMany_any (x y z : Int) (w : World) (hmx : Mx w) (hx : (Lit.int .u8 x).wf = true) (hy : (Lit.int .u8 y).wf = true) (hz : (Lit.int .u8 z).wf = true) :
    Calls Tryd.prog 3 #[.int .u8 x, .int .u8 y, .int .u8 z] w fun e w' => e = .returned (.bool true) ∧ Below w.heap.size w w' := by
  have HMX := hide hmx
  have hx' : 0 ≤ x ∧ x ≤ 255 := by simpa [Lit.wf, IntKind.min, IntKind.max, IntKind.signed, IntKind.bits] using hx
  have hy' : 0 ≤ y ∧ y ≤ 255 := by simpa [Lit.wf, IntKind.min, IntKind.max, IntKind.signed, IntKind.bits] using hy
  have hz' : 0 ≤ z ∧ z ≤ 255 := by simpa [Lit.wf, IntKind.min, IntKind.max, IntKind.signed, IntKind.bits] using hz
  obtain ⟨hx0, hx1⟩ := hx'
  obtain ⟨hy0, hy1⟩ := hy'
  obtain ⟨hz0, hz1⟩ := hz'
  clear hmx hx hy hz
  have hnb : NB w.heap.size (.slice none 0 0) (w.alloc (.cells #[.slice none 0 0] 24)) := heap_alloc_new w _
  have HNB := hide hnb
  obtain ⟨base, hbase, HBASE⟩ : ∃ base, w.heap.size < base ∧ Hid (base = w.heap.size + 1) := ⟨_, Nat.lt_succ_self _, rfl⟩
  clear hnb
  go_enter Tryd.func3, Tryd.ntmps3
  go_wp2_with fail
  go_loopw [8] (fun i wr => ∃ (k : Nat) (l : Name) (v : Value) (S : Nat → Prop), k ≤ 11 ∧ l.length ≤ k ∧ i = .int .i64 k ∧ Below w.heap.size w wr ∧ base ≤ wr.heap.size ∧ NB w.heap.size v wr ∧ Own RRdn 1 27 wr base S v l ∧ (∀ j, S j → base ≤ j ∧ j < wr.heap.size) ∧ SmallN l) (fun i _ => 11 - (intOf i).toNat)
  case atStart => exact ⟨0, [], _, No, by omega, by simp, rfl, (Below.refl _ _).alloc (Nat.le_refl _) _, by rw [HBASE.out]; simp, HNB.out, Own.nil _ _ _ _ _ _, fun j h => h.elim, fun x hx => by cases hx⟩
  case round =>
    obtain ⟨k, l, v, S, hk, hlk, rfl, hb, hgs, hnb, hown, hS, hsm⟩ := hrel
    have HNB := hide hnb
    have HB := hide hb
    have HOWN := hide hown
    have HS := hide hS
    have HSM := hide hsm
    clear hnb hb hown hS hsm
    obtain ⟨c0, f0⟩ := HNB.out.facts
    by_cases hlt : (k : Int) < 5 + x % 6
    · obtain ⟨a, ha⟩ : ∃ a : Attr, a = ([50, 46, 53, 46, 52, 46, 51], 19, [120]) := ⟨_, rfl⟩
      have hsa : SmallA a := by rw [ha]; exact ⟨by decide, by decide⟩
      have e1 : (⟨#[50, 46, 53, 46, 52, 46, 51]⟩ : ByteArray) = ⟨a.1.toArray⟩ := by rw [ha]
      have hob : Obj.cells #[.string ⟨#[50, 46, 53, 46, 52, 46, 51]⟩, .int .i64 19, .string ⟨#[120]⟩] 26 = Obj.cells #[.string ⟨a.1.toArray⟩, .int .i64 a.2.1, .string ⟨a.2.2.toArray⟩] 26 := by rw [ha]
      have hs1 := sl_att wr 26 a
      rw [← hob] at hs1
      obtain ⟨W1, hW1⟩ : ∃ W1, W1 = wr.alloc (.cells #[.string ⟨#[50, 46, 53, 46, 52, 46, 51]⟩, .int .i64 19, .string ⟨#[120]⟩] 26) := ⟨_, rfl⟩
      obtain ⟨S', hS'⟩ : ∃ S' : Nat → Prop, S' = fun j => S j ∨ j = wr.heap.size := ⟨_, rfl⟩
      have hS2 : ∀ j, S' j → base ≤ j ∧ j < wr.heap.size + 1 := fun j hj => by
        rw [hS'] at hj
        rcases hj with hj | rfl
        · have := HS.out j hj; omega
        · omega
      have hnoS : ∀ g, v.ownBlock = some g → ¬ S' g := fun g hg hh => by
        rw [hS'] at hh
        have hlt := (HOWN.out.lt g hg).2
        rcases hh with hh | hh
        · obtain ⟨_, _, h2, _⟩ := HOWN.out
          exact h2 g hg hh
        · omega
      have hz1' : W1.heap.size = wr.heap.size + 1 := by rw [hW1]; simp
      have ho1 : Own RRdn 1 27 W1 base S' v l := by
        rw [hW1]
        exact (HOWN.out.alloc RRdn.ok (fun j hj => (HS.out j hj).2) _).more RRdn.ok (fun j hj => by rw [hS']; exact .inl hj) hnoS
      have hnew : RRdn (W1.alloc (.cells #[.slice (some ⟨wr.heap.size, 0, none⟩) 1 1] 27)) S' [a] [.slice (some ⟨wr.heap.size, 0, none⟩) 1 1] := by
        rw [hW1]
        exact (Sl.ok RAttr.ok).mono hs1 (fun j hj => Below.heap_alloc _ _ j (by have : j = wr.heap.size := hj; rw [this]; simp)) (fun j hj => by rw [hS']; exact .inr hj)
      have ho2 := ho1.alloc RRdn.ok (fun j hj => by have := (hS2 j hj).2; omega) (.cells #[.slice (some ⟨wr.heap.size, 0, none⟩) 1 1] 27)
      rw [hW1] at hnew ho2
      have HNEW := hide (news_one2 hnew)
      have HO2 := hide ho2
      have HS2 := hide hS2
      have hgA : ∀ j, S' j → j < ((wr.alloc (.cells #[.string ⟨#[50, 46, 53, 46, 52, 46, 51]⟩, .int .i64 19, .string ⟨#[120]⟩] 26)).alloc (.cells #[.slice (some ⟨wr.heap.size, 0, none⟩) 1 1] 27)).heap.size := fun j hj => by have := (HS2.out j hj).2; simp; omega
      have HGA := hide hgA
      have hbA : Below wr.heap.size wr ((wr.alloc (.cells #[.string ⟨#[50, 46, 53, 46, 52, 46, 51]⟩, .int .i64 19, .string ⟨#[120]⟩] 26)).alloc (.cells #[.slice (some ⟨wr.heap.size, 0, none⟩) 1 1] 27)) := ((Below.refl _ _).alloc (Nat.le_refl _) _).alloc (by simp) _
      have HBA := hide hbA
      have HSA := hide hsa
      have hnbA := HNB.out.below hbA
      have HN := hide (fun W (h : Below base ((wr.alloc (.cells #[.string ⟨#[50, 46, 53, 46, 52, 46, 51]⟩, .int .i64 19, .string ⟨#[120]⟩] 26)).alloc (.cells #[.slice (some ⟨wr.heap.size, 0, none⟩) 1 1] 27)) W) => (show NB w.heap.size v W from (h.block _ hbase).trans hnbA))
      clear hs1 hW1 hS' hS2 hnoS hz1' ho1 hnew ho2 hgA hbA hnbA e1 hob ha hsa f0
      go_wp2_with (at_builtin; refine wpList_app RRdn.ok _ rfl (.tmp 26) (.tmp 29) 22 rfl base 27 (.slice none 0 0) 24 Tryd.underlying22 info_rdn rfl (by decide) S' _ l rfl HO2.out ⟨_, 0, none⟩ 1 1 [[a]] rfl rfl HNEW.out HGA.out (by simp; omega) (by simp [maxLen]; omega) (by simp; omega) ?_; intro v6 w6 hown6 hg6 hb6 hat6; obtain ⟨c6, f6⟩ := (HN.out _ hb6).facts; have hsz6 := hb6.size; obtain ⟨A8, c8, hv8⟩ := (hown6.sl RRdn.ok).shape; obtain ⟨n8, hn8⟩ : ∃ n8, (l ++ [[a]]).length = n8 := ⟨_, rfl⟩; rw [hn8] at hv8; subst hv8; clear hn8)
      have hn := HN.out _ hb6
      have hsz7 : wr.heap.size + 2 ≤ w6.heap.size := by simpa using hsz6
      have hbf := (HB.out.trans (HBA.out.mono HB.out.size)).trans (hb6.mono (by omega))
      go_roundw
      case rel => exact ⟨k + 1, l ++ [[a]], _, S', by omega, by simp; omega, by go_num, hbf.setCell (p := ⟨w.heap.size, 0, none⟩) (Nat.le_refl _) _, by simp; omega, hn.store _, hown6.other RRdn.ok (fun j hj => (HS2.out j hj).1) hbase _, fun j hj => ⟨(HS2.out j hj).1, by have := (HS2.out j hj).2; simp; omega⟩, (fun r hr => by
        rcases List.mem_append.1 hr with hr | hr
        · exact HSM.out r hr
        · simp at hr; subst hr
          intro q hq; simp at hq; subst hq; exact HSA.out)⟩
      case measure => simp [intOf]; omega
    · obtain ⟨wn, rfl⟩ : ∃ wn : World, wn = wr := ⟨_, rfl⟩
      have hslN := (Sl.ok RRdn.ok).mono (HOWN.out.sl RRdn.ok) (fun _ _ => rfl) (S' := Lt wn.heap.size) (fun j hj => by rcases hj with hj | hj; exact (HS.out j hj).2; exact hj.2)
      obtain ⟨AN, cN, hv⟩ := hslN.shape
      subst hv
      have HSLN := hide hslN
      clear hslN
      go_wp2_with fail
      obtain ⟨wA, hwA⟩ : ∃ wA, wA = (wn.alloc (.cells #[.slice none 0 0] 27)).alloc (.cells #[.slice (some ⟨wn.heap.size, 0, none⟩) 1 1] 24) := ⟨_, rfl⟩
      have hrb : RB wn.heap.size (.slice none 0 0) wA := by
        unfold RB
        rw [hwA, Below.heap_alloc _ _ _ (by simp)]
        exact heap_alloc_new wn _
      have hnbm : NB (wn.heap.size + 1) (.slice (some ⟨wn.heap.size, 0, none⟩) 1 1) wA := by
        unfold NB
        rw [hwA, show wn.heap.size + 1 = (wn.alloc (.cells #[.slice none 0 0] 27)).heap.size by simp]
        exact heap_alloc_new _ _
      have hbA : Below wn.heap.size wn wA := by rw [hwA]; exact ((Below.refl _ _).alloc (Nat.le_refl _) _).alloc (by simp) _
      have hzA : wA.heap.size = wn.heap.size + 2 := by rw [hwA]; simp
      rw [← hwA]
      obtain ⟨base2, hb2, HB2⟩ : ∃ base2, base2 = wn.heap.size + 2 ∧ Hid (base2 = wA.heap.size) := ⟨_, rfl, hzA.symm⟩
      have hbl : wn.heap.size + 1 < base2 := by omega
      have HRB := hide hrb
      have HNBM := hide hnbm
      have HBA := hide hbA
      obtain ⟨gm, hgm⟩ : ∃ gm, gm = wn.heap.size + 1 := ⟨_, rfl⟩
      rw [← hgm] at HNBM hbl ⊢
      have hgn : wn.heap.size < gm := by omega
      clear hwA hrb hnbm hbA hzA hb2 hgm
      go_loopw [10] (fun i wi => ∃ (k : Nat) (rr : List Attr) (v2 : Value), k ≤ 7 ∧ rr.length ≤ k ∧ i = .int .i64 k ∧ Below wn.heap.size wn wi ∧ base2 ≤ wi.heap.size ∧ RB wn.heap.size v2 wi ∧ NB gm (.slice (some ⟨wn.heap.size, 0, none⟩) 1 1) wi ∧ Own RAttr 3 26 wi base2 No v2 rr ∧ SmallR rr) (fun i _ => 7 - (intOf i).toNat)
      case atStart => exact ⟨0, [], _, by omega, by simp, rfl, HBA.out, by rw [HB2.out]; exact Nat.le_refl _, HRB.out, HNBM.out, Own.nil _ _ _ _ _ _, fun x hx => by cases hx⟩
      case round =>
        obtain ⟨k2, rr, v2, hk2, hrl, rfl, hbi, hgi, hrb, hnbm, hown2, hsmr⟩ := hrel
        by_cases hlt2 : (k2 : Int) < y % 7
        · obtain ⟨A6, c6, hv2⟩ := (hown2.sl RAttr.ok).shape
          subst hv2
          obtain ⟨d1, -⟩ := hnbm.facts
          obtain ⟨d2, f2⟩ := hrb.facts
          obtain ⟨ot, hot⟩ : ∃ ot : ByteArray, ot = (⟨(decL k2).toArray⟩ : ByteArray) := ⟨_, rfl⟩
          have hot1 : ot.size ≤ 10 := by rw [hot]; exact decL_len 9 k2 (by omega)
          have DC := hide (fun w => hot ▸ Dec_any k2 _ rfl (by omega) w)
          have hs6 : (⟨#[50, 46, 53, 46, 52, 46]⟩ : ByteArray).size = 6 := rfl
          have hbs : ¬ 9223372036854775807 < 6 + ot.size := by omega
          obtain ⟨ty, hty⟩ : ∃ ty, ty = (⟨#[50, 46, 53, 46, 52, 46]⟩ : ByteArray) ++ ot := ⟨_, rfl⟩
          have htys : ty.size ≤ 16 := by rw [hty, ba_size]; omega
          have hty2 : (⟨#[50, 46, 53, 46, 52, 46]⟩ : ByteArray) ++ ot = ty := hty.symm
          have HRB2 := hide hrb
          have HNBM2 := hide hnbm
          have HBI := hide hbi
          have HOWN2 := hide hown2
          have HSMR := hide hsmr
          clear hot hs6 hrb hnbm hbi hown2 hsmr hty
          go_wp2_with fail
          go_region_law (first
            | (refine step_app RAttr.ok _ ?_ (.tmp 46) (.tmp 51) 27 ?_ base2 26 (.agg #[.string ⟨#[]⟩, .int .i64 0, .string ⟨#[]⟩]) 40 Tryd.underlying27 info_att rfl (by decide) No (.slice A6 rr.length c6) rr ?_ ?_ ⟨w9.heap.size, 0, none⟩ 1 1 [(ty.data.toList, 12, [121])] ?_ rfl ?_ (no_lt _) ?_ ?_ ?_ ?_; rfl; rfl; rfl; exact ((HOWN2.out.drew RAttr.ok).below RAttr.ok (no_lt _) hb9).alloc RAttr.ok (no_lt _) _; rfl; exact news_att3 _ _ _ ty ⟨#[121]⟩ 12; (simp; omega); (simp [maxLen]; omega); (simp; omega); intro v7 w7 hown7 hg7 hb7 hat7; have hb7s := hb7.size; obtain ⟨A8, c8, hv8⟩ := (hown7.sl RAttr.ok).shape; obtain ⟨n8, hn8⟩ : ∃ n8, (rr ++ [(ty.data.toList, (12 : Int), ([121] : List UInt8))]).length = n8 := ⟨_, rfl⟩; rw [hn8] at hv8; subst hv8; clear hn8; have rb7 : RB wn.heap.size (.slice A6 rr.length c6) w7 := (hb7.block _ (Nat.lt_trans hgn hbl)).trans (rb9.below ((Below.refl _ _).alloc (Nat.le_refl _) _)); have q5 := rb7.facts.1; have q6 := rb7.facts.2; have nb7 : NB gm (.slice (some ⟨wn.heap.size, 0, none⟩) 1 1) w7 := (hb7.block _ hbl).trans (nb9.below ((Below.refl _ _).alloc (Nat.le_refl _) _)); have q10 := nb7.facts.1)
            | (go_simp; go_at_call 9; refine (DC.out _).mono ?_; rintro e w9 ⟨rfl, hb9⟩; have q1 := cell_grows hb9 _ _ d1; have q2 := cell_grows hb9 _ _ d2; have hs9 : wr.heap.size ≤ w9.heap.size := hb9.size; have rb9 := (show RB wn.heap.size (.slice A6 rr.length c6) wr.drew from HRB2.out).below hb9; have nb9 := (show NB gm (.slice (some ⟨wn.heap.size, 0, none⟩) 1 1) wr.drew from HNBM2.out).below hb9; have q4 := rb9.facts.2; have q8 := fun ob => (World.cell?_alloc_lt w9 ob ⟨wn.heap.size, 0, none⟩ rb9.lt).trans rb9.facts.1; have q9 := fun ob => (World.cell?_alloc_lt w9 ob ⟨gm, 0, none⟩ (World.block_lt_of_cell? w9 ⟨gm, 0, none⟩ q1)).trans q1))
          all_goals
            have hbf := HBI.out.trans ((((Below.refl wr.heap.size wr).drew.trans hb9).mono HBI.out.size).trans (((Below.refl w9.heap.size w9).alloc (Nat.le_refl _) (.cells #[.string ty, .int .i64 12, .string ⟨#[121]⟩] 26)).mono (by have := HBI.out.size; omega) |>.trans (hb7.mono (by omega))))
            have hst := rb7.store (.slice A8 n8 c8)
            have hnn : NB gm (.slice (some ⟨wn.heap.size, 0, none⟩) 1 1) (w7.setCell ⟨wn.heap.size, 0, none⟩ (.slice A8 n8 c8)) := nb7.other (by omega)
            have hoo := hown7.other RAttr.ok (fun j hj => hj.elim) (g := wn.heap.size) (j := 0) (by omega) (.slice A8 n8 c8)
            have hszz : base2 ≤ w7.heap.size := by simp at hb7s; omega
            have HF := hide (hbf.setCell (p := ⟨wn.heap.size, 0, none⟩) (Nat.le_refl _) (.slice A8 n8 c8))
            clear hbf q1 q2 q4 q5 q6 q8 q9 q10 d1 d2 f2
            go_wp2_with fail
            go_roundw
            case rel => exact ⟨k2 + 1, rr ++ [(ty.data.toList, 12, [121])], _, by omega, by simp; omega, by go_num, HF.out, by simp; omega, hst, hnn, hoo, (fun q hq => by
              rcases List.mem_append.1 hq with hq | hq
              · exact HSMR.out q hq
              · simp at hq; subst hq; exact ⟨by show ty.data.toList.length ≤ _; rw [size_string]; omega, by show ([121] : List UInt8).length ≤ _; decide⟩)⟩
            case measure => simp [intOf]; omega
        · have hslM : Sl RRdn 1 wr (Lt wr.heap.size) [rr] [.slice (some ⟨wn.heap.size, 0, none⟩) 1 1] := by
            refine ⟨_, 1, rfl, Nat.le_refl _, by simp [maxLen], fun _ => ⟨wn.heap.size, 0, rfl, hrb.lt, fun i q hq => ?_⟩⟩
            match i, hq with
            | 0, hq =>
              simp at hq; subst hq
              refine ⟨[v2], (Sl.ok RAttr.ok).mono (hown2.sl RAttr.ok) (fun _ _ => rfl) (fun j hj => by rcases hj with hj | hj; exact hj.elim; exact hj.2), fun j u hu => ?_⟩
              match j, hu with
              | 0, hu =>
                simp at hu; subst hu
                exact hrb.facts.1
          obtain ⟨wm, rfl⟩ : ∃ wm : World, wm = wr := ⟨_, rfl⟩
          have HSLM := hide hslM
          have HSMM := hide (show SmallN [rr] from fun q hq => by simp at hq; subst hq; exact hsmr)
          have HSLN2 := hide ((Sl.ok RRdn.ok).below HSLN.out hbi)
          have hn7 := (HNB.out.below hbi).facts.1
          have hm7 := hnbm.facts.1
          have hl7 := (HNB.out.below hbi).lt
          have hlm := hnbm.lt
          have HBM := hide (HB.out.trans (hbi.mono HB.out.size))
          clear hslM hrb hnbm hown2 hsmr hbi
          go_wp2_with fail
          go_loop [11, 12] (fun s i => ∃ (k3 : Nat) (o : ByteArray), k3 ≤ 68 ∧ o.size ≤ k3 ∧ s = .string o ∧ i = .int .i64 k3) (fun _ i => 68 - (intOf i).toNat)
          case atStart => exact ⟨0, ⟨#[]⟩, by omega, by decide, rfl, rfl⟩
          case round =>
            obtain ⟨k3, o, hk3, hos, rfl, rfl⟩ := hrel
            by_cases hlt3 : (k3 : Int) < 60 + z % 8
            · have hz1 : (⟨#[122]⟩ : ByteArray).size = 1 := rfl
              have hoz : (o ++ ⟨#[122]⟩).size ≤ k3 + 1 := by rw [ba_size]; omega
              have hbs : ¬ 9223372036854775807 < o.size + 1 := by omega
              clear hz1
              go_wp2_with fail
              go_round
              case rel => exact ⟨k3 + 1, _, by omega, hoz, rfl, by go_num⟩
              case measure => simp [intOf]; omega
            · obtain ⟨a, ha⟩ : ∃ a : Attr, a = ([50, 46, 53, 46, 52, 46, 49, 49], 22, o.data.toList) := ⟨_, rfl⟩
              have hso : SmallN [[a]] := fun q hq => by
                simp at hq; subst hq
                intro b hb; simp at hb; subst hb
                rw [ha]
                exact ⟨by show ([50, 46, 53, 46, 52, 46, 49, 49] : List UInt8).length ≤ _; decide, by show o.data.toList.length ≤ _; rw [size_string]; omega⟩
              have hslO := sl_one_rdn wm 26 27 a
              have hob : Obj.cells #[.string ⟨a.1.toArray⟩, .int .i64 a.2.1, .string ⟨a.2.2.toArray⟩] 26 = Obj.cells #[.string ⟨#[50, 46, 53, 46, 52, 46, 49, 49]⟩, .int .i64 22, .string o] 26 := by rw [ha]
              rw [hob] at hslO
              have q7 : ∀ o1 o2 o3, (((wm.alloc o1).alloc o2).alloc o3).cell? ⟨w.heap.size, 0, none⟩ = some (.slice AN l.length cN) := fun o1 o2 o3 => by
                rw [World.cell?_alloc_lt _ _ _ (by show w.heap.size < _; simp; omega), World.cell?_alloc_lt _ _ _ (by show w.heap.size < _; simp; omega), World.cell?_alloc_lt _ _ _ (by exact hl7)]
                exact hn7
              have q8 : ∀ o1 o2 o3, (((wm.alloc o1).alloc o2).alloc o3).cell? ⟨gm, 0, none⟩ = some (.slice (some ⟨wn.heap.size, 0, none⟩) 1 1) := fun o1 o2 o3 => by
                rw [World.cell?_alloc_lt _ _ _ (by show gm < _; simp; omega), World.cell?_alloc_lt _ _ _ (by show gm < _; simp; omega), World.cell?_alloc_lt _ _ _ (by exact hlm)]
                exact hm7
              clear ha hob hn7 hm7
              go_wp2_with fail
              clear q7 q8
              obtain ⟨W2, hW2⟩ : ∃ W2, W2 = (wm.alloc (.cells #[.string ⟨#[50, 46, 53, 46, 52, 46, 49, 49]⟩, .int .i64 22, .string o] 26)).alloc (.cells #[.slice (some ⟨wm.heap.size, 0, none⟩) 1 1] 27) := ⟨_, rfl⟩
              rw [← hW2] at hslO ⊢
              have hb2w : Below wm.heap.size wm W2 := by rw [hW2]; exact ((Below.refl _ _).alloc (Nat.le_refl _) _).alloc (by simp) _
              obtain ⟨W3, hW3⟩ : ∃ W3, W3 = W2.alloc (.cells #[.slice (some ⟨wm.heap.size + 1, 0, none⟩) 1 1] 24) := ⟨_, rfl⟩
              rw [← hW3]
              have hb3w : Below W2.heap.size W2 W3 := by rw [hW3]; exact (Below.refl _ _).alloc (Nat.le_refl _) _
              have hz3 : W3.heap.size = wm.heap.size + 1 + 1 + 1 := by rw [hW3, hW2]; simp
              obtain ⟨W0, hW0⟩ : ∃ W0, W0 = W3.alloc (.cells #[.slice AN l.length cN, .slice (some ⟨wn.heap.size, 0, none⟩) 1 1, .slice (some ⟨wm.heap.size + 1, 0, none⟩) 1 1] 24) := ⟨_, rfl⟩
              rw [← hW0]
              have hb0w : Below W3.heap.size W3 W0 := by rw [hW0]; exact (Below.refl _ _).alloc (Nat.le_refl _) _
              have hz0 : W0.heap.size = wm.heap.size + 1 + 1 + 1 + 1 := by rw [hW0, World.size_alloc, hz3]
              have hb20 : Below W2.heap.size W2 W0 := hb3w.trans (hb0w.mono hb3w.size)
              have hbm0 : Below wm.heap.size wm W0 := hb2w.trans (hb20.mono hb2w.size)
              have hcells : ∀ k, k < 3 → ∃ (n : Name) (A : Option Addr) (c : Nat), W0.cell? ⟨wm.heap.size + 1 + 1 + 1, k, none⟩ = some (.slice A n.length c) ∧ Sl RRdn 1 W0 (Lt W0.heap.size) n [.slice A n.length c] ∧ SmallN n := fun k hk => by
                rw [hW0, ← hz3, World.cell?_alloc_new, ← hW0]
                match k, hk with
                | 0, _ => exact ⟨l, _, _, rfl, (Sl.ok RRdn.ok).below HSLN2.out hbm0, HSM.out⟩
                | 1, _ => exact ⟨[rr], _, _, rfl, (Sl.ok RRdn.ok).below HSLM.out hbm0, HSMM.out⟩
                | 2, _ => exact ⟨[[a]], _, _, rfl, (Sl.ok RRdn.ok).below hslO hb20, hso⟩
              have hbw0 : Below w.heap.size w W0 := HBM.out.trans (hbm0.mono HBM.out.size)
              have HC := hide hcells
              have HB0 := hide hbw0
              have HZ0 := hide hz0
              clear hW2 hb2w hW3 hb3w hz3 hW0 hb0w hz0 hb20 hbm0 hcells hbw0 hslO hso
              go_loopw [74] (fun i wi => ∃ k : Nat, k ≤ 3 ∧ i = .int .i64 k ∧ Below W0.heap.size W0 wi) (fun i _ => 3 - (intOf i).toNat)
              case atStart => exact ⟨0, by omega, rfl, Below.refl _ _⟩
              case round =>
                obtain ⟨k4, hk4, rfl, hb⟩ := hrel
                have hbw := HB0.out.trans (hb.mono HB0.out.size)
                have HBW := hide hbw
                have HMXr := hide (HMX.out.below hbw)
                by_cases hlt4 : k4 < 3
                · obtain ⟨n, A, c, hc, hsl, hsm⟩ := HC.out k4 hlt4
                  have hc1 : wr.cell? ⟨wm.heap.size + 1 + 1 + 1, k4, none⟩ = some (.slice A n.length c) := (hb.cell (p := ⟨wm.heap.size + 1 + 1 + 1, k4, none⟩) (show wm.heap.size + 1 + 1 + 1 < W0.heap.size by have := HZ0.out; omega)).trans hc
                  have HSLr := hide ((Sl.ok RRdn.ok).below hsl hb)
                  have HSMn := hide hsm
                  have HB := hide hb
                  clear hb hbw hc hsl hsm
                  go_wp2_with fail
                  obtain ⟨wx, hwx⟩ : ∃ wx, wx = wr.alloc (.cells #[.slice A n.length c] 24) := ⟨_, rfl⟩
                  have hx0 : wx.cell? ⟨wr.heap.size, 0, none⟩ = some (.slice A n.length c) := by rw [hwx, World.cell?_alloc_new]; rfl
                  have hbx : Below wr.heap.size wr wx := by rw [hwx]; exact (Below.refl _ _).alloc (Nat.le_refl _) _
                  have hmx : Mx wx := HMXr.out.below hbx
                  have HBX := hide (HB.out.trans (hbx.mono HB.out.size))
                  have hbb : Below wx.heap.size wx wx := Below.refl _ _
                  have hmxd : Mx wx.drew := hmx
                  have hslx := (Sl.ok RRdn.ok).below HSLr.out hbx
                  obtain ⟨q, hq⟩ : ∃ q, chkN n = q := ⟨_, rfl⟩
                  have CC := hide (fun W h1 h2 h3 => oneC (g := wr.heap.size) (u := .slice A n.length c) (wx := wx) (Check_v n A c q hq W h2 ((Sl.ok RRdn.ok).below hslx h3) HSMn.out) h1 h2 h3)
                  have RC := hide (fun W h1 h2 h3 => oneC (g := wr.heap.size) (u := .slice A n.length c) (wx := wx) (rCheck_v n A c q hq W h2 ((Sl.ok RRdn.ok).below hslx h3) HSMn.out) h1 h2 h3)
                  have htt : (q != q) = false := by simp
                  rw [← hwx]
                  clear hwx hc1 hbx hq hslx
                  go_region_held3 (fun W => W.cell? ⟨wr.heap.size, 0, none⟩ = some (.slice A n.length c) ∧ Mx W ∧ Below wx.heap.size wx W)
                    (first | exact ⟨hs1, hs2, hs3⟩ | exact ⟨hx0, hmx, hbb⟩ | exact ⟨hx0, hmxd, hbb.drew⟩)
                    (first
                      | (go_at_call 10; (first | refine (CC.out _ hs1 hs2 hs3).mono ?_ | refine (CC.out wx.drew hx0 hmxd hbb.drew).mono ?_); rintro e w9 ⟨rfl, hs1, hs2, hs3⟩)
                      | (go_at_call 11; (first | refine (RC.out _ hs1 hs2 hs3).mono ?_ | refine (RC.out wx.drew hx0 hmxd hbb.drew).mono ?_); rintro e w9 ⟨rfl, hs1, hs2, hs3⟩))
                  all_goals
                    go_wp2_with fail
                    go_roundw
                    case rel => exact ⟨k4 + 1, by omega, by go_num, HBX.out.trans (hs3.mono HBX.out.size)⟩
                    case measure => simp [intOf]; omega
                · clear hb hbw
                  go_wp2_with fail
                  refine (nawake_any _ HMXr.out).mono ?_
                  rintro e w3 ⟨rfl, hb3⟩
                  go_wp2_with fail
                  go_ret
                  exact ⟨rfl, HBW.out.trans (hb3.mono HBW.out.size)⟩
end Go.Proofs.YtepibepgfackkaaDoor
