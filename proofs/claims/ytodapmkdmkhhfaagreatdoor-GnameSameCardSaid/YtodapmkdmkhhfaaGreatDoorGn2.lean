/- More laws for memory: a copy of a slice that came in, 'append([]T(nil), l...)'. -/
import Derived.Test.YtodapmkdmkhhfaaGreatDoorLib3
import Derived.Test.YtodapmkdmkhhfaaGreatDoorGnD
import Derived.Deep.RegionHeld3
namespace Go.Proofs.YtodapmkdmkhhfaaGreatDoor
open Go.RowKit

section
variable {P : Program} {α : Type} {R : Rep α} {size : Nat} {w : World} {ops : Array Oper} {rest : List Oper} {o : Oper} {a : Act} {Q : Exit → Act → World → Prop} {K : Act → World → Prop}
theorem run_append_owned_zero (base : Nat) (t ty e : TypeId) (i : TypeInfo) (size : Nat) (ht : P.underlying t = some (.slice e)) (hi : P.info? e = some i)
    (v : Value) (n : Nat) (xs : List Value) (hown : w.ownsRow base e size v n xs) (A : Option Addr) (c : Nat) :
    (Builtin.append_ #[t, t] ty #[v, .slice A 0 c]).run P w = .ok v w := by
  rcases hown.2 with ⟨rfl, rfl⟩ | ⟨g, cap, cur, rfl, _, _, hnc, _⟩
  · cases A <;> simp [Builtin.append_, run_underlying ht, sizeOf, typeInfo, hi, Builtin.lenOf, Builtin.firstCells, loadCells, loadCellsFrom]
  · cases A <;> simp [Builtin.append_, run_underlying ht, sizeOf, typeInfo, hi, Builtin.lenOf, Builtin.firstCells, hnc, storeCells, loadCells, loadCellsFrom]
/-- where the elements of a slice that is not empty lie -/
theorem sl_src {S : Nat → Prop} {A : Option Addr} {c : Nat} {l : List α} (h : Sl R size w S l [.slice A l.length c]) (hl : l ≠ []) :
    ∃ ad : Addr, A = some ad ∧ ∀ i y, l[i]? = some y → ∃ cs, R w S y cs ∧ ∀ j u, cs[j]? = some u → w.cell? (ad.add (i * size + j)) = some u := by
  obtain ⟨A', c', e, _, _, h3⟩ := h
  simp only [List.cons.injEq, Value.slice.injEq, and_true] at e
  obtain ⟨rfl, -, rfl⟩ := e
  obtain ⟨b, off, hA, hb, hh⟩ := h3 (List.length_pos_iff.2 hl)
  refine ⟨_, hA, fun i y hy => ?_⟩
  obtain ⟨cs, h1, h2⟩ := hh i y hy
  refine ⟨cs, h1, fun j u hu => ?_⟩
  rw [Addr.add_lit]
  exact h2 j u hu
theorem wp_copy (hR : RepOk R size) (w : World) (s x : Operand) (t : TypeId) (ho : o.op = .call { callee := .builtin .append, args := #[s, x], argTypes := #[t, t] })
    (base : Nat) (e : TypeId) (z : Value) (bytes : Nat) (ht : P.underlying t = some (.slice e))
    (hi : (P.info? e).map (fun i => (i.zero, i.size, i.bytes)) = some (some z, size, bytes)) (hzs : z.cells.size = size) (hsz : 0 < size)
    (S S' : Nat → Prop) (hRS : ∀ y cs, R w S y cs → R w S' y cs) (hs : a.eval s = .slice none 0 0) (A : Option Addr) (c : Nat) (l : List α) (hx : a.eval x = .slice A l.length c) (hsrc : Sl R size w S l [.slice A l.length c])
    (hS : ∀ k, S' k → k < w.heap.size) (hbytes : l.length * bytes ≤ 140737488355328) (hbase : base ≤ w.heap.size)
    (h : ∀ v' w', Own R size e w' base S' v' l → Below w.heap.size w w' → (v' = .slice none 0 0 ∨ v'.ownBlock = some w.heap.size) → K (a.put o.dst v') w') : o.wp P a w K Q := by
  have hlen := hsrc.len_
  by_cases hl : l = []
  · subst hl
    obtain ⟨i0, hi0, hz0, hz1, hz2⟩ := info_parts hi
    have hnil := Own.nil R size e w base S'
    obtain ⟨xs, h1, h2, h3⟩ := hnil
    have hrun := run_append_owned_zero (P := P) (w := w) base t o.type e i0 size ht hi0 (.slice none 0 0) 0 xs h1 A c
    have hK := h (.slice none 0 0) w (Own.nil R size e w base S') (Below.refl _ _) (.inl rfl)
    have hx' : a.eval x = .slice A 0 c := hx
    unfold Oper.wp execOp
    simp [ho, resolve, invoke, builtin, hs, hx', hrun, Result.andThen]
    exact hK
  · obtain ⟨ad, rfl, hy⟩ := sl_src hsrc hl
    refine wp_app hR w s x t ho base e z bytes ht hi hzs hsz S' (.slice none 0 0) [] hs (Own.nil R size e w base S') ad l.length c l hx rfl (fun i y hi => (hy i y hi).imp fun cs h => ⟨hRS y cs h.1, h.2⟩) hS (by simpa using hbytes) (by have := hlen.2; unfold maxLen at *; simp only [List.length_nil, Nat.zero_add]; omega) hbase (fun v' w' h2 h3 h4 h5 => ?_)
    rw [List.nil_append] at h2
    refine h v' w' h2 ⟨h3.os, h3.tape, h3.output, h3.size, fun k hk => h3.block k hk (by simp [Value.ownBlock])⟩ ?_
    rcases h5 with h5 | h5
    · exfalso
      have hb : v'.ownBlock = none := by rw [h5]; rfl
      obtain ⟨xs, h6, -, -⟩ := h2
      rcases h6.2 with ⟨-, h7⟩ | ⟨g, cap, cur, rfl, -⟩
      · exact hl (List.eq_nil_of_length_eq_zero h7)
      · simp [Value.ownBlock] at hb
    · exact .inr h5
theorem wpList_copy (hR : RepOk R size) (w : World) (hgd : o.guard = none) (s x : Operand) (t : TypeId) (ho : o.op = .call { callee := .builtin .append, args := #[s, x], argTypes := #[t, t] })
    (base : Nat) (e : TypeId) (z : Value) (bytes : Nat) (ht : P.underlying t = some (.slice e))
    (hi : (P.info? e).map (fun i => (i.zero, i.size, i.bytes)) = some (some z, size, bytes)) (hzs : z.cells.size = size) (hsz : 0 < size)
    (S S' : Nat → Prop) (hRS : ∀ y cs, R w S y cs → R w S' y cs) (hs : a.eval s = .slice none 0 0) (A : Option Addr) (c : Nat) (l : List α) (hx : a.eval x = .slice A l.length c) (hsrc : Sl R size w S l [.slice A l.length c])
    (hS : ∀ k, S' k → k < w.heap.size) (hbytes : l.length * bytes ≤ 140737488355328) (hbase : base ≤ w.heap.size)
    (h : ∀ v' w', Own R size e w' base S' v' l → Below w.heap.size w w' → (v' = .slice none 0 0 ∨ v'.ownBlock = some w.heap.size) → wpList P ops Q rest (a.put o.dst v') w') : wpList P ops Q (o :: rest) a w :=
  wpList_plain hgd fun _ hK => wp_copy hR w s x t ho base e z bytes ht hi hzs hsz S S' hRS hs A c l hx hsrc hS hbytes hbase fun v' w' h2 h3 h4 => hK _ _ (h v' w' h2 h3 h4)
end
end Go.Proofs.YtodapmkdmkhhfaaGreatDoor

/- The functions of package subtree: cloneName. -/
namespace Go.Proofs.YtodapmkdmkhhfaaGreatDoor
open Go.RowKit

/-- sizes of a name that is copied -/
def CpN (n : Name) : Prop := n.length ≤ 1000 ∧ ∀ r ∈ n, r.length ≤ 1000
theorem clone_step {wr w1 : World} {base : Nat} {S : Nat → Prop} {v : Value} {l : Name} {r : List Attr} {A1 : Option Addr} {c1 : Nat} (hown : Own RRdn 1 72 wr base S v l) (hS : ∀ j, S j → base ≤ j ∧ j < wr.heap.size) (hbase : base ≤ wr.heap.size)
    (hb : Below wr.heap.size wr w1) (h1 : Own RAttr 3 74 w1 wr.heap.size No (.slice A1 r.length c1) r) :
    ∃ S' : Nat → Prop, Own RRdn 1 72 (w1.alloc (.cells #[.slice A1 r.length c1] 72)) base S' v l ∧
      (∀ i z, [r][i]? = some z → ∃ cs, RRdn (w1.alloc (.cells #[.slice A1 r.length c1] 72)) S' z cs ∧ ∀ j u, cs[j]? = some u → (w1.alloc (.cells #[.slice A1 r.length c1] 72)).cell? ((⟨w1.heap.size, 0, none⟩ : Addr).add (i * 1 + j)) = some u) ∧
      ∀ j, S' j → base ≤ j ∧ j < (w1.alloc (.cells #[.slice A1 r.length c1] 72)).heap.size := by
  obtain ⟨S', hS'⟩ : ∃ S' : Nat → Prop, S' = fun j => S j ∨ (wr.heap.size ≤ j ∧ j < w1.heap.size) := ⟨_, rfl⟩
  have hz := hb.size
  have hS2 : ∀ j, S' j → base ≤ j ∧ j < w1.heap.size := fun j hj => by
    rw [hS'] at hj
    rcases hj with hj | hj
    · have := hS j hj; omega
    · omega
  have hnoS : ∀ g, v.ownBlock = some g → ¬ S' g := fun g hg hh => by
    rw [hS'] at hh
    have hlt := (hown.lt g hg).2
    rcases hh with hh | hh
    · obtain ⟨_, _, h2, _⟩ := hown
      exact h2 g hg hh
    · omega
  have hownO := ((hown.below RRdn.ok (fun j hj => (hS j hj).2) hb).more RRdn.ok (fun j hj => by rw [hS']; exact .inl hj) hnoS)
  have hownA := hownO.alloc RRdn.ok (fun j hj => (hS2 j hj).2) (.cells #[.slice A1 r.length c1] 72)
  have hnew : Sl RAttr 3 (w1.alloc (.cells #[.slice A1 r.length c1] 72)) S' r [.slice A1 r.length c1] := (Sl.ok RAttr.ok).mono (h1.sl RAttr.ok) (fun j hj => Below.heap_alloc _ _ j (by rcases hj with hj | hj; exact hj.elim; exact hj.2)) (fun j hj => by rw [hS']; rcases hj with hj | hj; exact hj.elim; exact .inr hj)
  exact ⟨S', hownA, news_one (R := RRdn) hnew, fun j hj => ⟨(hS2 j hj).1, by have := (hS2 j hj).2; simp; omega⟩⟩
theorem GB.below {g : Nat} {k : Int} {t : ByteArray} {v : Value} {W W' : World} (h : GB g k t v W) (hb : Below W.heap.size W W') : GB g k t v W' := (hb.block g h.lt).trans h
theorem GB.store2 {g : Nat} {k : Int} {t : ByteArray} {v : Value} {W : World} (h : GB g k t v W) (c : Value) : GB g k t c (W.setCell ⟨g, 2, none⟩ c) := by
  unfold GB at *
  simp [World.setCell, Array.getElem?_modify, h]
theorem GB.other {g g' j : Nat} {k : Int} {t : ByteArray} {v u : Value} {W : World} (h : GB g k t v W) (hne : g ≠ g') : GB g k t v (W.setCell ⟨g', j, none⟩ u) := (Below.heap_setCell W ⟨g', j, none⟩ u g hne).trans h
set_option maxRecDepth 100000 in
set_option maxHeartbeats 8000000 in
theorem cloneName_any (k : Int) (t : ByteArray) (n : Name) (A : Option Addr) (c : Nat) (hcp : CpN n) (w : World) (h1 : Sl RRdn 1 w (Lt w.heap.size) n [.slice A n.length c]) :
    Calls Tryz.prog 72 #[.agg #[.int .i64 k, .string t, .slice A n.length c]] w fun e w' => ∃ (A' : Option Addr) (c' : Nat), e = .returned (.agg #[.int .i64 k, .string t, .slice A' n.length c']) ∧ Sl RRdn 1 w' (Btw w.heap.size w'.heap.size) n [.slice A' n.length c'] ∧ Below w.heap.size w w' := by
  have hnl := hcp.1
  have HCP := hide hcp.2
  have K := hide h1
  obtain ⟨wa, hwa⟩ : ∃ wa, wa = (w.alloc (.cells #[.int .i64 k, .string t, .slice A n.length c] 32)).alloc (.cells #[.int .i64 0, .string ⟨#[]⟩, .slice none 0 0] 32) := ⟨_, rfl⟩
  have hg1 : GB w.heap.size k t (.slice A n.length c) wa := by
    unfold GB
    rw [hwa, Below.heap_alloc _ _ _ (by simp)]
    exact heap_alloc_new w _
  have hg2 : GB (w.heap.size + 1) 0 ⟨#[]⟩ (.slice none 0 0) wa := by
    unfold GB
    rw [hwa, show w.heap.size + 1 = (w.alloc (.cells #[.int .i64 k, .string t, .slice A n.length c] 32)).heap.size by simp]
    exact heap_alloc_new _ _
  have hba : Below w.heap.size w wa := by rw [hwa]; exact ((Below.refl _ _).alloc (Nat.le_refl _) _).alloc (by simp) _
  have hza : wa.heap.size = w.heap.size + 2 := by rw [hwa]; simp
  have G1 := hide hg1
  have G2 := hide hg2
  have HBA := hide hba
  have HWA := hide hwa
  obtain ⟨r0, r1, r2, f0, f1, f2⟩ := hg1.facts
  obtain ⟨base, hbase⟩ : ∃ base, base = wa.heap.size := ⟨_, rfl⟩
  obtain ⟨gg, hgg⟩ : ∃ gg, gg = w.heap.size + 1 := ⟨_, rfl⟩
  rw [← hgg] at G2
  have hwg : w.heap.size < gg := by omega
  have hgb : gg < base := by omega
  have hbw0 : w.heap.size ≤ base := by omega
  have HBASE := hide hbase
  have HGG := hide hgg
  clear hcp h1 hwa hg1 hg2 hba hza hbase hgg
  go_enter Tryz.func72, Tryz.ntmps72
  go_upto_region 1 with (fail)
  rw [← HWA.out]
  go_wp2_with fail
  rw [← HGG.out]
  clear r0 r1 r2 f0 f1 f2
  go_loopw [3, 10] (fun x i wr => ∃ (j : Nat) (v : Value) (S : Nat → Prop), j ≤ n.length ∧ v = x ∧ i = .int .i64 j ∧ Below wa.heap.size wa wr ∧ base ≤ wr.heap.size ∧ Own RRdn 1 72 wr base S v (n.take j) ∧ ∀ b, S b → base ≤ b ∧ b < wr.heap.size) (fun _ i _ => n.length - (intOf i).toNat)
  case atStart => exact ⟨0, _, No, Nat.zero_le _, rfl, rfl, Below.refl _ _, by rw [HBASE.out]; exact Nat.le_refl _, Own.nil _ _ _ _ _ _, fun b h => h.elim⟩
  case round =>
    obtain ⟨j, v, S, hj, rfl, rfl, hb, hgs, hown, hS⟩ := hrel
    have hbw := HBA.out.trans (hb.mono HBA.out.size)
    have HB := hide hb
    have HBW := hide hbw
    have HOWN := hide hown
    have HS := hide hS
    clear hb hown hS
    by_cases hlt : j < n.length
    · obtain ⟨b2, o2, A2, c2, hA2, hbS, d0, hsl⟩ := K.out.rdnAt hlt
      subst hA2
      have hbS' : b2 < w.heap.size := hbS
      have hrl := HCP.out n[j] (List.getElem_mem hlt)
      have HT := hide (List.take_succ_eq_append_getElem hlt)
      obtain ⟨r, hr⟩ : ∃ r, n[j] = r := ⟨_, rfl⟩
      rw [hr] at d0 hsl hrl HT
      have e0 := (hbw.cell (p := ⟨b2, o2 + j, none⟩) hbS').trans d0
      have hsrc := (Sl.ok RAttr.ok).below hsl hbw
      have HSRC := hide hsrc
      have hlj : (n.take j).length ≤ 1000 := by rw [List.length_take]; omega
      clear hr d0 hsl hbw hsrc
      go_wp2_with (first
        | (at_builtin; refine wpList_copy RAttr.ok _ rfl (.const (.slice none 0 0)) (.tmp 15) 72 rfl wr.heap.size 74 (.agg #[.string ⟨#[]⟩, .int .i64 0, .string ⟨#[]⟩]) 40 Tryz.underlying72 info_att rfl (by decide) (Lt wr.heap.size) No (fun _ _ h => h) rfl A2 c2 r rfl HSRC.out (no_lt _) (by omega) (Nat.le_refl _) ?_; intro v1 w1 hown1 hb1 hat1; obtain ⟨A1, c1, hv1⟩ := (hown1.sl RAttr.ok).shape; subst hv1; obtain ⟨S', hc1, hc2, hc3⟩ := clone_step HOWN.out HS.out hgs hb1 hown1; have hz1 := hb1.size)
        | (at_builtin; refine wpList_app RRdn.ok _ rfl (.tmp 14) (.tmp 17) 28 rfl base 72 (.slice none 0 0) 24 Tryz.underlying28 info_rdn rfl (by decide) S' _ (n.take j) rfl hc1 ⟨_, 0, none⟩ 1 1 [r] rfl rfl hc2 (fun b hb => (hc3 b hb).2) (by simp; omega) (by simp [maxLen]; omega) (by simp; omega) ?_; intro v6 w6 hown6 hgr6 hb6 hat6; have hsz6 := hb6.size; simp at hsz6)
        | fail)
      have hsz7 : w1.heap.size + 1 ≤ w6.heap.size := by simpa using hsz6
      have hbf : Below wa.heap.size wa w6 := ((HB.out.trans (hb1.mono HB.out.size)).alloc (Nat.le_trans HB.out.size hz1) _).trans (by rw [← HBASE.out]; exact hb6)
      rw [← HT.out] at hown6
      go_roundw
      case rel => exact ⟨j + 1, _, S', by omega, rfl, by go_num, hbf, by omega, hown6, fun b hb => ⟨(hc3 b hb).1, by have := (hc3 b hb).2; simp at this; omega⟩⟩
      case measure => simp [intOf]; omega
    · have htk : n.take j = n := List.take_of_length_le (by omega)
      have hown := HOWN.out
      rw [htk] at hown
      have hslB := (Sl.ok RRdn.ok).mono (hown.sl RRdn.ok) (fun _ _ => rfl) (S' := fun b => base ≤ b ∧ b < wr.heap.size) (fun b hb => by rcases hb with hb | hb; exact HS.out b hb; exact hb)
      obtain ⟨A9, c9, hv⟩ := hslB.shape
      subst hv
      have HSLB := hide hslB
      have HG1 := hide (G1.out.below HB.out)
      have HG2 := hide (G2.out.below HB.out)
      obtain ⟨r0, r1, r2, f0, f1, f2⟩ := HG1.out.facts
      clear htk hown hslB hbw
      go_upto_region 8 with (fail)
      obtain ⟨wx, hwx⟩ : ∃ wx, wx = wr.setCell ⟨w.heap.size, 2, none⟩ (.slice A9 n.length c9) := ⟨_, rfl⟩
      have HX1 := hide (hwx ▸ HG1.out.store2 (.slice A9 n.length c9))
      have HX2 := hide (show GB gg 0 ⟨#[]⟩ (.slice none 0 0) wx from hwx ▸ HG2.out.other (by omega))
      have HXB := hide (show Below w.heap.size w wx by rw [hwx]; exact HBW.out.setCell (p := ⟨w.heap.size, 2, none⟩) (Nat.le_refl _) _)
      have HXS := hide (show Sl RRdn 1 wx (Btw base wx.heap.size) n [.slice A9 n.length c9] from (Sl.ok RRdn.ok).mono HSLB.out (fun b hb => by rw [hwx]; exact Below.heap_setCell wr _ _ b (by have := hb.1; show b ≠ w.heap.size; omega)) (fun b hb => ⟨hb.1, by have := hb.2; rw [hwx]; simpa using this⟩))
      rw [← hwx]
      clear hwx r0 r1 r2 f0 f1 f2
      obtain ⟨r0, r1, r2, -⟩ := HX1.out.facts
      obtain ⟨s0, s1, s2, f0, f1, f2⟩ := HX2.out.facts
      go_wp2_with fail
      have hst := HX2.out.store k t (.slice A9 n.length c9)
      have hbz := ((HXB.out.setCell (p := ⟨gg, 0, none⟩) (show w.heap.size ≤ gg by omega) (.int .i64 k)).setCell (p := ⟨gg, 1, none⟩) (show w.heap.size ≤ gg by omega) (.string t)).setCell (p := ⟨gg, 2, none⟩) (show w.heap.size ≤ gg by omega) (.slice A9 n.length c9)
      have hsl3 : Sl RRdn 1 (((wx.setCell ⟨gg, 0, none⟩ (.int .i64 k)).setCell ⟨gg, 1, none⟩ (.string t)).setCell ⟨gg, 2, none⟩ (.slice A9 n.length c9)) (Btw w.heap.size (((wx.setCell ⟨gg, 0, none⟩ (.int .i64 k)).setCell ⟨gg, 1, none⟩ (.string t)).setCell ⟨gg, 2, none⟩ (.slice A9 n.length c9)).heap.size) n [.slice A9 n.length c9] := by
        have h9 := HXS.out
        rw [HBASE.out] at h9
        exact sl_st3 (w1 := wa) h9 (by rw [← HBASE.out]; exact hgb) (by rw [← HBASE.out]; exact hbw0)
      obtain ⟨W3, hW3⟩ : ∃ W3, W3 = ((wx.setCell ⟨gg, 0, none⟩ (.int .i64 k)).setCell ⟨gg, 1, none⟩ (.string t)).setCell ⟨gg, 2, none⟩ (.slice A9 n.length c9) := ⟨_, rfl⟩
      rw [← hW3] at hst hbz hsl3 ⊢
      obtain ⟨q0, q1, q2, -⟩ := hst.facts
      exact bodyPost_ret (v := .agg #[.int .i64 k, .string t, .slice A9 n.length c9]) (by simp [results, Tryz.results72, go_sem, q0, q1, q2]) rfl ⟨A9, c9, rfl, hsl3, hbz⟩
end Go.Proofs.YtodapmkdmkhhfaaGreatDoor

/- The functions of package subtree: each, over general names. -/
namespace Go.Proofs.YtodapmkdmkhhfaaGreatDoor
open Go.RowKit

theorem info_gen : (Tryz.prog.info? 32).map (fun i => (i.zero, i.size, i.bytes)) = some (some (.agg #[.int .i64 0, .string ⟨#[]⟩, .slice none 0 0]), 3, 48) := by kernel_rfl
theorem gen_step {wr W w1 : World} {base : Nat} {S : Nat → Prop} {v : Value} {l : List Gen} {k : Int} {t : ByteArray} {n : Name} {A1 : Option Addr} {c1 : Nat} (hown : Own RGen 3 32 wr base S v l) (hS : ∀ j, S j → base ≤ j ∧ j < wr.heap.size) (hbase : base ≤ wr.heap.size)
    (hbW : Below wr.heap.size wr W) (hb : Below W.heap.size W w1) (h1 : Sl RRdn 1 w1 (Btw W.heap.size w1.heap.size) n [.slice A1 n.length c1]) :
    ∃ S' : Nat → Prop, Own RGen 3 32 (w1.alloc (.cells #[.int .i64 k, .string t, .slice A1 n.length c1] 32)) base S' v l ∧
      (∀ i z, [((k, t.data.toList, n) : Gen)][i]? = some z → ∃ cs, RGen (w1.alloc (.cells #[.int .i64 k, .string t, .slice A1 n.length c1] 32)) S' z cs ∧ ∀ j u, cs[j]? = some u → (w1.alloc (.cells #[.int .i64 k, .string t, .slice A1 n.length c1] 32)).cell? ((⟨w1.heap.size, 0, none⟩ : Addr).add (i * 3 + j)) = some u) ∧
      ∀ j, S' j → base ≤ j ∧ j < (w1.alloc (.cells #[.int .i64 k, .string t, .slice A1 n.length c1] 32)).heap.size := by
  obtain ⟨S', hS'⟩ : ∃ S' : Nat → Prop, S' = fun j => S j ∨ (W.heap.size ≤ j ∧ j < w1.heap.size) := ⟨_, rfl⟩
  have hz := hb.size
  have hzW := hbW.size
  have hS2 : ∀ j, S' j → base ≤ j ∧ j < w1.heap.size := fun j hj => by
    rw [hS'] at hj
    rcases hj with hj | hj
    · have := hS j hj; omega
    · omega
  have hnoS : ∀ g, v.ownBlock = some g → ¬ S' g := fun g hg hh => by
    rw [hS'] at hh
    have hlt := (hown.lt g hg).2
    rcases hh with hh | hh
    · obtain ⟨_, _, h2, _⟩ := hown
      exact h2 g hg hh
    · omega
  have hbb : Below wr.heap.size wr w1 := hbW.trans (hb.mono hbW.size)
  have hownO := ((hown.below RGen.ok (fun j hj => (hS j hj).2) hbb).more RGen.ok (fun j hj => by rw [hS']; exact .inl hj) hnoS)
  have hownA := hownO.alloc RGen.ok (fun j hj => (hS2 j hj).2) (.cells #[.int .i64 k, .string t, .slice A1 n.length c1] 32)
  refine ⟨S', hownA, fun i z hz => ?_, fun j hj => ⟨(hS2 j hj).1, by have := (hS2 j hj).2; simp; omega⟩⟩
  match i, hz with
  | 0, hz =>
    simp at hz; subst hz
    refine ⟨[.int .i64 k, .string t, .slice A1 n.length c1], ⟨_, rfl, (Sl.ok RRdn.ok).mono h1 (fun j hj => Below.heap_alloc _ _ j hj.2) (fun j hj => by rw [hS']; exact .inr hj)⟩, fun j u hu => ?_⟩
    rw [Addr.add_lit, Nat.zero_mul, Nat.zero_add, Nat.zero_add, World.cell?_alloc_new]
    simpa using hu

set_option maxRecDepth 100000 in
set_option maxHeartbeats 8000000 in
theorem eachGen_any (l : List Gen) (B : Option Addr) (d : Nat) (hln : l.length ≤ 1000) (hcp : ∀ g ∈ l, CpN g.2.2) (w : World) (h2 : Sl RGen 3 w (Lt w.heap.size) l [.slice B l.length d]) :
    Calls Tryz.prog 71 #[.slice B l.length d, .func (.func 72) #[] #[]] w fun e w' => ∃ (B' : Option Addr) (d' : Nat), e = .returned (.slice B' l.length d') ∧ Sl RGen 3 w' (Btw w.heap.size w'.heap.size) l [.slice B' l.length d'] ∧ Below w.heap.size w w' := by
  have hcf : ∀ (x : Value) (W : World), (callFunc 72 #[x]).run Tryz.prog W = .ok (.enter 72 #[x]) W := fun x W => by kernel_rfl
  have HCP := hide hcp
  have K := hide h2
  obtain ⟨base, hbase⟩ : ∃ base, base = w.heap.size := ⟨_, rfl⟩
  have HBASE := hide hbase
  clear hcp h2 hbase
  go_enter Tryz.func71, Tryz.ntmps71
  go_wp2_with fail
  go_loopw [5, 10] (fun x i wr => ∃ (j : Nat) (v : Value) (S : Nat → Prop), j ≤ l.length ∧ v = x ∧ i = .int .i64 j ∧ Below w.heap.size w wr ∧ base ≤ wr.heap.size ∧ Own RGen 3 32 wr base S v (l.take j) ∧ ∀ b, S b → base ≤ b ∧ b < wr.heap.size) (fun _ i _ => l.length - (intOf i).toNat)
  case atStart => exact ⟨0, _, No, Nat.zero_le _, rfl, rfl, Below.refl _ _, by rw [HBASE.out]; exact Nat.le_refl _, Own.nil _ _ _ _ _ _, fun b h => h.elim⟩
  case round =>
    obtain ⟨j, v, S, hj, rfl, rfl, hb, hgs, hown, hS⟩ := hrel
    have HB := hide hb
    have HOWN := hide hown
    have HS := hide hS
    clear hown hS
    by_cases hlt : j < l.length
    · obtain ⟨b2, o2, t2, A2', c2, hB, hbS, ht2, d0, d1, d2, hsl⟩ := K.out.genAt hlt
      subst hB
      have hbS' : b2 < w.heap.size := hbS
      have HC := hide (HCP.out l[j] (List.getElem_mem hlt))
      have HT := hide (List.take_succ_eq_append_getElem hlt)
      obtain ⟨kb, hkb⟩ : ∃ kb, l[j].1 = kb := ⟨_, rfl⟩
      obtain ⟨nb, hnb⟩ : ∃ nb, l[j].2.2 = nb := ⟨_, rfl⟩
      have hbe : l[j] = (kb, t2.data.toList, nb) := by rw [← hkb, ← hnb, ht2]
      rw [hkb] at d0
      rw [hnb] at d2 hsl HC
      rw [hbe] at HT
      have f0 := (hb.cell (p := ⟨b2, o2 + j * 3, none⟩) hbS').trans d0
      have f1 := (hb.cell (p := ⟨b2, o2 + j * 3 + 1, none⟩) hbS').trans d1
      have f2 := (hb.cell (p := ⟨b2, o2 + j * 3 + 2, none⟩) hbS').trans d2
      have hbc : Below wr.heap.size wr (wr.alloc (.cells #[.int .i64 kb, .string t2, .slice A2' nb.length c2] 32)) := (Below.refl _ _).alloc (Nat.le_refl _) _
      have SN := hide ((Sl.ok RRdn.ok).below hsl (hb.trans (hbc.mono hb.size)))
      have HBC := hide hbc
      have hlj : (l.take j).length ≤ 1000 := by rw [List.length_take]; omega
      clear hb d0 d1 d2 hsl hkb hnb hbe ht2 hbc
      go_wp2_with fail
      refine (cloneName_any kb t2 nb A2' c2 HC.out _ SN.out).mono ?_
      rintro e w5 ⟨A5, c5, rfl, hsl5, hb5⟩
      obtain ⟨S', hc1, hc2, hc3⟩ := gen_step (k := kb) (t := t2) HOWN.out HS.out hgs HBC.out hb5 hsl5
      have hz5 := hb5.size
      simp only [World.size_alloc] at hz5
      have HB5 := hide (HB.out.trans ((HBC.out.trans (hb5.mono HBC.out.size)).mono HB.out.size))
      clear hsl5 hb5 f0 f1 f2
      go_wp2_with (first
        | (at_builtin; refine wpList_app RGen.ok _ rfl (.tmp 14) (.tmp 18) 25 rfl base 32 (.agg #[.int .i64 0, .string ⟨#[]⟩, .slice none 0 0]) 48 Tryz.underlying25 info_gen rfl (by decide) S' _ (l.take j) rfl hc1 ⟨_, 0, none⟩ 1 1 [(kb, t2.data.toList, nb)] rfl rfl hc2 (fun b hb => (hc3 b hb).2) (by simp; omega) (by simp [maxLen]; omega) (by simp; omega) ?_; intro v6 w6 hown6 hgr6 hb6 hat6; have hsz6 := hb6.size; simp at hsz6)
        | fail)
      have hsz7 : w5.heap.size + 1 ≤ w6.heap.size := by simpa using hsz6
      have hbf : Below w.heap.size w w6 := (HB5.out.alloc HB5.out.size _).trans (by rw [← HBASE.out]; exact hb6)
      rw [← HT.out] at hown6
      go_roundw
      case rel => exact ⟨j + 1, _, S', by omega, rfl, by go_num, hbf, by omega, hown6, fun b hb => ⟨(hc3 b hb).1, by have := (hc3 b hb).2; simp at this; omega⟩⟩
      case measure => simp [intOf]; omega
    · have htk : l.take j = l := List.take_of_length_le (by omega)
      have hown := HOWN.out
      rw [htk] at hown
      have hslB := (Sl.ok RGen.ok).mono (hown.sl RGen.ok) (fun _ _ => rfl) (S' := fun b => base ≤ b ∧ b < wr.heap.size) (fun b hb => by rcases hb with hb | hb; exact HS.out b hb; exact hb)
      obtain ⟨A9, c9, hv⟩ := hslB.shape
      subst hv
      have HSLB := hide hslB
      clear htk hown hslB hb
      go_wp2_with fail
      go_ret
      exact ⟨A9, c9, rfl, (Sl.ok RGen.ok).mono HSLB.out (fun _ _ => rfl) (fun b hb => ⟨by rw [← HBASE.out]; exact hb.1, hb.2⟩), HB.out⟩
end Go.Proofs.YtodapmkdmkhhfaaGreatDoor

/- The functions of package subtree: clone. -/
namespace Go.Proofs.YtodapmkdmkhhfaaGreatDoor
open Go.RowKit

/-- a variable that holds name constraints -/
def SB (g : Nat) (u v : Value) (W : World) : Prop := W.heap[g]? = some (.cells #[u, v] 27 (0, 0))
theorem SB.facts {g : Nat} {u v : Value} {W : World} (h : SB g u v W) : W.cell? ⟨g, 0, none⟩ = some u ∧ W.cell? ⟨g, 1, none⟩ = some v ∧ W.frozen? ⟨g, 0, none⟩ = false ∧ W.frozen? ⟨g, 1, none⟩ = false := by
  unfold SB at h
  simp [World.cell?, World.frozen?, h]
theorem SB.lt {g : Nat} {u v : Value} {W : World} (h : SB g u v W) : g < W.heap.size := (Array.getElem?_eq_some_iff.1 h).1
theorem SB.below {g : Nat} {u v : Value} {W W' : World} (h : SB g u v W) (hb : Below W.heap.size W W') : SB g u v W' := (hb.block g h.lt).trans h
theorem SB.store {g : Nat} {u v : Value} {W : World} (h : SB g u v W) (a b : Value) : SB g a b ((W.setCell ⟨g, 0, none⟩ a).setCell ⟨g, 1, none⟩ b) := by
  unfold SB at *
  simp [World.setCell, Array.getElem?_modify, h]
def EachPost (l : List Gen) (w0 W : World) (e : Ending) (w' : World) : Prop :=
  ∃ (B' : Option Addr) (d' : Nat), e = .returned (.slice B' l.length d') ∧ Sl RGen 3 w' (Btw W.heap.size w'.heap.size) l [.slice B' l.length d'] ∧ Below W.heap.size W w' ∧ Below w0.heap.size w0 w'
theorem stSub {w W : World} {g gg : Nat} {u v a b : Value} (h1 : W.cell? ⟨g, 0, none⟩ = some u) (h2 : W.cell? ⟨g, 1, none⟩ = some v) (h3 : Below w.heap.size w W) (hg : g ≠ gg) (hw : w.heap.size ≤ gg) :
    ((W.setCell ⟨gg, 0, none⟩ a).setCell ⟨gg, 1, none⟩ b).cell? ⟨g, 0, none⟩ = some u ∧ ((W.setCell ⟨gg, 0, none⟩ a).setCell ⟨gg, 1, none⟩ b).cell? ⟨g, 1, none⟩ = some v ∧ Below w.heap.size w ((W.setCell ⟨gg, 0, none⟩ a).setCell ⟨gg, 1, none⟩ b) := by
  have key : ∀ j, ((W.setCell ⟨gg, 0, none⟩ a).setCell ⟨gg, 1, none⟩ b).cell? ⟨g, j, none⟩ = W.cell? ⟨g, j, none⟩ := fun j =>
    (World.cell?_of_block (a := ⟨g, j, none⟩) (Below.heap_setCell _ ⟨gg, 1, none⟩ b g hg)).trans (World.cell?_of_block (a := ⟨g, j, none⟩) (Below.heap_setCell _ ⟨gg, 0, none⟩ a g hg))
  exact ⟨(key 0).trans h1, (key 1).trans h2, (h3.setCell (p := ⟨gg, 0, none⟩) hw a).setCell (p := ⟨gg, 1, none⟩) hw b⟩
theorem sl_st2 {α : Type} {R : Rep α} {size : Nat} (hR : RepOk R size) {W : World} {g B B0 : Nat} {l : List α} {v a b : Value} (h : Sl R size W (Btw B0 W.heap.size) l [v]) (hg : g < B0) (hB : B ≤ B0) :
    Sl R size ((W.setCell ⟨g, 0, none⟩ a).setCell ⟨g, 1, none⟩ b) (Btw B ((W.setCell ⟨g, 0, none⟩ a).setCell ⟨g, 1, none⟩ b).heap.size) l [v] :=
  (Sl.ok hR).mono h (fun k hk => by
    have hne : k ≠ g := by have := hk.1; omega
    rw [Below.heap_setCell _ ⟨g, 1, none⟩ b k hne, Below.heap_setCell _ ⟨g, 0, none⟩ a k hne]) (fun k hk => ⟨by have := hk.1; omega, by have := hk.2; simp; omega⟩)
theorem sl_btw {α : Type} {R : Rep α} {size : Nat} (hR : RepOk R size) {W W' : World} {B : Nat} {l : List α} {v : Value} (h : Sl R size W (Btw B W.heap.size) l [v]) (hb : Below W.heap.size W W') : Sl R size W' (Btw B W'.heap.size) l [v] :=
  (Sl.ok hR).mono h (fun k hk => hb.block k hk.2) (fun _ hk => ⟨hk.1, Nat.lt_of_lt_of_le hk.2 hb.size⟩)
def CpL (l : List Gen) : Prop := l.length ≤ 1000 ∧ ∀ g ∈ l, CpN g.2.2
theorem each_held {l : List Gen} {B : Option Addr} {d : Nat} {w0 W : World} (hl : CpL l) (h2 : Sl RGen 3 w0 (Lt w0.heap.size) l [.slice B l.length d]) (hb : Below w0.heap.size w0 W) :
    Calls Tryz.prog 71 #[.slice B l.length d, .func (.func 72) #[] #[]] W (EachPost l w0 W) :=
  (eachGen_any l B d hl.1 hl.2 W ((Sl.ok RGen.ok).below h2 hb)).mono fun _ _ ⟨B', d', he, hs, hbb⟩ => ⟨B', d', he, hs, hbb, hb.trans (hbb.mono hb.size)⟩

set_option maxRecDepth 100000 in
set_option maxHeartbeats 8000000 in
theorem clone_any (p x : List Gen) (A B : Option Addr) (c d : Nat) (hp : CpL p) (hx : CpL x) (w : World) (h1 : Sl RGen 3 w (Lt w.heap.size) p [.slice A p.length c]) (h2 : Sl RGen 3 w (Lt w.heap.size) x [.slice B x.length d]) :
    Calls Tryz.prog 41 #[.agg #[.slice A p.length c, .slice B x.length d]] w fun e w' => ∃ (A' B' : Option Addr) (c' d' : Nat), e = .returned (.agg #[.slice A' p.length c', .slice B' x.length d']) ∧
      Sl RGen 3 w' (Btw w.heap.size w'.heap.size) p [.slice A' p.length c'] ∧ Sl RGen 3 w' (Btw w.heap.size w'.heap.size) x [.slice B' x.length d'] ∧ Below w.heap.size w w' := by
  obtain ⟨wa, hwa⟩ : ∃ wa, wa = (w.alloc (.cells #[.slice A p.length c, .slice B x.length d] 27)).alloc (.cells #[.slice none 0 0, .slice none 0 0] 27) := ⟨_, rfl⟩
  have hg1 : SB w.heap.size (.slice A p.length c) (.slice B x.length d) wa := by
    unfold SB
    rw [hwa, Below.heap_alloc _ _ _ (by simp)]
    exact heap_alloc_new w _
  have hg2 : SB (w.heap.size + 1) (.slice none 0 0) (.slice none 0 0) wa := by
    unfold SB
    rw [hwa, show w.heap.size + 1 = (w.alloc (.cells #[.slice A p.length c, .slice B x.length d] 27)).heap.size by simp]
    exact heap_alloc_new _ _
  have hba : Below w.heap.size w wa := by rw [hwa]; exact ((Below.refl _ _).alloc (Nat.le_refl _) _).alloc (by simp) _
  have hza : wa.heap.size = w.heap.size + 2 := by rw [hwa]; simp
  obtain ⟨gg, hgg⟩ : ∃ gg, gg = w.heap.size + 1 := ⟨_, rfl⟩
  rw [← hgg] at hg2
  obtain ⟨y0, y1, -, -⟩ := hg1.facts
  have y0d : wa.drew.cell? ⟨w.heap.size, 0, none⟩ = some (.slice A p.length c) := y0
  have y1d : wa.drew.cell? ⟨w.heap.size, 1, none⟩ = some (.slice B x.length d) := y1
  have hbad : Below w.heap.size w wa.drew := hba.drew
  have hne : w.heap.size ≠ gg := by omega
  have hle : w.heap.size ≤ gg := by omega
  have hba2 : Below wa.heap.size wa wa.drew := (Below.refl _ _).drew
  have HG2 := hide hg2
  have E1 := hide (fun W hb => each_held (W := W) hp ((Sl.ok RGen.ok).below h1 hba) hb)
  have E2 := hide (fun W hb => each_held (W := W) hx ((Sl.ok RGen.ok).below h2 hba) hb)
  have HWA := hide hwa
  have HZA := hide hza
  have HGG := hide hgg
  clear hwa hg1 hg2 hza hp hx h1 h2 hgg
  go_enter Tryz.func41, Tryz.ntmps41
  go_upto_region 1 with (fail)
  rw [← HWA.out, ← HGG.out]
  go_region_held3 (fun W => W.cell? ⟨w.heap.size, 0, none⟩ = some (.slice A p.length c) ∧ W.cell? ⟨w.heap.size, 1, none⟩ = some (.slice B x.length d) ∧ Below w.heap.size w W)
    (first | exact ⟨hs1, hs2, hs3⟩ | exact stSub hs1 hs2 hs3 hne hle | exact ⟨y0, y1, hba⟩ | exact ⟨y0d, y1d, hbad⟩)
    (first
      | (go_at_call_of 71 (Value.slice A p.length c); refine (E1.out wa.drew hba2).mono ?_; rintro e w5 ⟨A5, c5, rfl, hsl5, hb5, hbw5⟩; have hs1 := cell_grows hb5 _ _ y0d; have hs2 := cell_grows hb5 _ _ y1d; have hs3 := hbad.trans (hb5.mono hbad.size))
      | (go_at_call_of 71 (Value.slice B x.length d); refine (E2.out w5 hbw5).mono ?_; rintro e w6 ⟨A6, c6, rfl, hsl6, hb6, hbw6⟩; have hs1 := cell_grows hb6 _ _ hs1; have hs2 := cell_grows hb6 _ _ hs2; have hs3 := hs3.trans (hb6.mono hs3.size); have hgr := HG2.out.below hbw6; have q0 := hgr.facts.1; have q1 := hgr.facts.2.1; have q2 := hgr.facts.2.2.1; have q3 := hgr.facts.2.2.2)
      | fail)
  all_goals
    go_wp2_with fail
    have hst := hgr.store (.slice A5 p.length c5) (.slice A6 x.length c6)
    have hbz := (stSub (a := .slice A5 p.length c5) (b := .slice A6 x.length c6) hs1 hs2 hs3 hne hle).2.2
    have hz1 : wa.drew.heap.size = w.heap.size + 2 := HZA.out
    have hz2 := hb5.size
    have hp5 := sl_st2 RGen.ok (g := gg) (B := w.heap.size) (a := .slice A5 p.length c5) (b := .slice A6 x.length c6) (sl_btw RGen.ok hsl5 hb6) (by have := HGG.out; omega) (by omega)
    have hx6 := sl_st2 RGen.ok (g := gg) (B := w.heap.size) (a := .slice A5 p.length c5) (b := .slice A6 x.length c6) hsl6 (by have := HGG.out; omega) (by omega)
    obtain ⟨W3, hW3⟩ : ∃ W3, W3 = (w6.setCell ⟨gg, 0, none⟩ (.slice A5 p.length c5)).setCell ⟨gg, 1, none⟩ (.slice A6 x.length c6) := ⟨_, rfl⟩
    rw [← hW3] at hst hbz hp5 hx6 ⊢
    obtain ⟨q8, q9, -, -⟩ := hst.facts
    exact bodyPost_ret (v := .agg #[.slice A5 p.length c5, .slice A6 x.length c6]) (by simp [results, Tryz.results41, go_sem, q8, q9]) rfl ⟨A5, A6, c5, c6, rfl, hp5, hx6, hbz⟩
end Go.Proofs.YtodapmkdmkhhfaaGreatDoor

/- The functions of package subtree: each, over name constraints. -/
namespace Go.Proofs.YtodapmkdmkhhfaaGreatDoor
open Go.RowKit

theorem info_sub : (Tryz.prog.info? 27).map (fun i => (i.zero, i.size, i.bytes)) = some (some (.agg #[.slice none 0 0, .slice none 0 0]), 2, 48) := by kernel_rfl
theorem sub_step {wr W w1 : World} {base : Nat} {S : Nat → Prop} {v : Value} {l : List Sub} {p x : List Gen} {A1 A2 : Option Addr} {c1 c2 : Nat} (hown : Own RSub 2 27 wr base S v l) (hS : ∀ j, S j → base ≤ j ∧ j < wr.heap.size) (hbase : base ≤ wr.heap.size)
    (hbW : Below wr.heap.size wr W) (hb : Below W.heap.size W w1) (h1 : Sl RGen 3 w1 (Btw W.heap.size w1.heap.size) p [.slice A1 p.length c1]) (h2 : Sl RGen 3 w1 (Btw W.heap.size w1.heap.size) x [.slice A2 x.length c2]) :
    ∃ S' : Nat → Prop, Own RSub 2 27 (w1.alloc (.cells #[.slice A1 p.length c1, .slice A2 x.length c2] 27)) base S' v l ∧
      (∀ i z, [((p, x) : Sub)][i]? = some z → ∃ cs, RSub (w1.alloc (.cells #[.slice A1 p.length c1, .slice A2 x.length c2] 27)) S' z cs ∧ ∀ j u, cs[j]? = some u → (w1.alloc (.cells #[.slice A1 p.length c1, .slice A2 x.length c2] 27)).cell? ((⟨w1.heap.size, 0, none⟩ : Addr).add (i * 2 + j)) = some u) ∧
      ∀ j, S' j → base ≤ j ∧ j < (w1.alloc (.cells #[.slice A1 p.length c1, .slice A2 x.length c2] 27)).heap.size := by
  obtain ⟨S', hS'⟩ : ∃ S' : Nat → Prop, S' = fun j => S j ∨ (W.heap.size ≤ j ∧ j < w1.heap.size) := ⟨_, rfl⟩
  have hz := hb.size
  have hzW := hbW.size
  have hS2 : ∀ j, S' j → base ≤ j ∧ j < w1.heap.size := fun j hj => by
    rw [hS'] at hj
    rcases hj with hj | hj
    · have := hS j hj; omega
    · omega
  have hnoS : ∀ g, v.ownBlock = some g → ¬ S' g := fun g hg hh => by
    rw [hS'] at hh
    have hlt := (hown.lt g hg).2
    rcases hh with hh | hh
    · obtain ⟨_, _, h2, _⟩ := hown
      exact h2 g hg hh
    · omega
  have hbb : Below wr.heap.size wr w1 := hbW.trans (hb.mono hbW.size)
  have hownO := ((hown.below RSub.ok (fun j hj => (hS j hj).2) hbb).more RSub.ok (fun j hj => by rw [hS']; exact .inl hj) hnoS)
  have hownA := hownO.alloc RSub.ok (fun j hj => (hS2 j hj).2) (.cells #[.slice A1 p.length c1, .slice A2 x.length c2] 27)
  refine ⟨S', hownA, fun i z hz => ?_, fun j hj => ⟨(hS2 j hj).1, by have := (hS2 j hj).2; simp; omega⟩⟩
  match i, hz with
  | 0, hz =>
    simp at hz; subst hz
    refine ⟨[.slice A1 p.length c1, .slice A2 x.length c2], ⟨_, _, rfl, (Sl.ok RGen.ok).mono h1 (fun j hj => Below.heap_alloc _ _ j hj.2) (fun j hj => by rw [hS']; exact .inr hj), (Sl.ok RGen.ok).mono h2 (fun j hj => Below.heap_alloc _ _ j hj.2) (fun j hj => by rw [hS']; exact .inr hj)⟩, fun j u hu => ?_⟩
    rw [Addr.add_lit, Nat.zero_mul, Nat.zero_add, Nat.zero_add, World.cell?_alloc_new]
    simpa using hu

def CpS (s : Sub) : Prop := CpL s.1 ∧ CpL s.2
set_option maxRecDepth 100000 in
set_option maxHeartbeats 8000000 in
theorem eachSub_any (l : List Sub) (B : Option Addr) (d : Nat) (hln : l.length ≤ 1000) (hcp : ∀ s ∈ l, CpS s) (w : World) (h2 : Sl RSub 2 w (Lt w.heap.size) l [.slice B l.length d]) :
    Calls Tryz.prog 40 #[.slice B l.length d, .func (.func 41) #[] #[]] w fun e w' => ∃ (B' : Option Addr) (d' : Nat) (S' : Nat → Prop), e = .returned (.slice B' l.length d') ∧ Own RSub 2 27 w' w.heap.size S' (.slice B' l.length d') l ∧ (∀ b, S' b → w.heap.size ≤ b ∧ b < w'.heap.size) ∧ Below w.heap.size w w' := by
  have hcf : ∀ (x : Value) (W : World), (callFunc 41 #[x]).run Tryz.prog W = .ok (.enter 41 #[x]) W := fun x W => by kernel_rfl
  have HCP := hide hcp
  have K := hide h2
  obtain ⟨base, hbase⟩ : ∃ base, base = w.heap.size := ⟨_, rfl⟩
  have HBASE := hide hbase
  clear hcp h2 hbase
  go_enter Tryz.func40, Tryz.ntmps40
  go_wp2_with fail
  go_loopw [5, 10] (fun x i wr => ∃ (j : Nat) (v : Value) (S : Nat → Prop), j ≤ l.length ∧ v = x ∧ i = .int .i64 j ∧ Below w.heap.size w wr ∧ base ≤ wr.heap.size ∧ Own RSub 2 27 wr base S v (l.take j) ∧ ∀ b, S b → base ≤ b ∧ b < wr.heap.size) (fun _ i _ => l.length - (intOf i).toNat)
  case atStart => exact ⟨0, _, No, Nat.zero_le _, rfl, rfl, Below.refl _ _, by rw [HBASE.out]; exact Nat.le_refl _, Own.nil _ _ _ _ _ _, fun b h => h.elim⟩
  case round =>
    obtain ⟨j, v, S, hj, rfl, rfl, hb, hgs, hown, hS⟩ := hrel
    have HB := hide hb
    have HOWN := hide hown
    have HS := hide hS
    clear hown hS
    by_cases hlt : j < l.length
    · obtain ⟨b2, o2, A1', c1, A2', c2, hB, hbS, d0, d1, hslp, hslx⟩ := K.out.subAt hlt
      subst hB
      have hbS' : b2 < w.heap.size := hbS
      have HC := hide (HCP.out l[j] (List.getElem_mem hlt))
      have HT := hide (List.take_succ_eq_append_getElem hlt)
      obtain ⟨pb, hpb⟩ : ∃ pb, l[j].1 = pb := ⟨_, rfl⟩
      obtain ⟨xb, hxb⟩ : ∃ xb, l[j].2 = xb := ⟨_, rfl⟩
      have hbe : l[j] = (pb, xb) := by rw [← hpb, ← hxb]
      rw [hpb] at d0 hslp
      rw [hxb] at d1 hslx
      rw [hbe] at HT HC
      have f0 := (hb.cell (p := ⟨b2, o2 + j * 2, none⟩) hbS').trans d0
      have f1 := (hb.cell (p := ⟨b2, o2 + j * 2 + 1, none⟩) hbS').trans d1
      have hbc : Below wr.heap.size wr (wr.alloc (.cells #[.slice A1' pb.length c1, .slice A2' xb.length c2] 27)) := (Below.refl _ _).alloc (Nat.le_refl _) _
      have SP := hide ((Sl.ok RGen.ok).below hslp (hb.trans (hbc.mono hb.size)))
      have SX := hide ((Sl.ok RGen.ok).below hslx (hb.trans (hbc.mono hb.size)))
      have HBC := hide hbc
      have hlj : (l.take j).length ≤ 1000 := by rw [List.length_take]; omega
      clear hb d0 d1 hslp hslx hpb hxb hbe hbc
      go_wp2_with fail
      refine (clone_any pb xb A1' A2' c1 c2 HC.out.1 HC.out.2 _ SP.out SX.out).mono ?_
      rintro e w5 ⟨A5, A6, c5, c6, rfl, hsl5, hsl6, hb5⟩
      obtain ⟨S', hc1, hc2, hc3⟩ := sub_step HOWN.out HS.out hgs HBC.out hb5 hsl5 hsl6
      have hz5 := hb5.size
      simp only [World.size_alloc] at hz5
      have HB5 := hide (HB.out.trans ((HBC.out.trans (hb5.mono HBC.out.size)).mono HB.out.size))
      clear hsl5 hsl6 hb5 f0 f1
      go_wp2_with (first
        | (at_builtin; refine wpList_app RSub.ok _ rfl (.tmp 14) (.tmp 18) 22 rfl base 27 (.agg #[.slice none 0 0, .slice none 0 0]) 48 Tryz.underlying22 info_sub rfl (by decide) S' _ (l.take j) rfl hc1 ⟨_, 0, none⟩ 1 1 [(pb, xb)] rfl rfl hc2 (fun b hb => (hc3 b hb).2) (by simp; omega) (by simp [maxLen]; omega) (by simp; omega) ?_; intro v6 w6 hown6 hgr6 hb6 hat6; have hsz6 := hb6.size; simp at hsz6)
        | fail)
      have hsz7 : w5.heap.size + 1 ≤ w6.heap.size := by simpa using hsz6
      have hbf : Below w.heap.size w w6 := (HB5.out.alloc HB5.out.size _).trans (by rw [← HBASE.out]; exact hb6)
      rw [← HT.out] at hown6
      go_roundw
      case rel => exact ⟨j + 1, _, S', by omega, rfl, by go_num, hbf, by omega, hown6, fun b hb => ⟨(hc3 b hb).1, by have := (hc3 b hb).2; simp at this; omega⟩⟩
      case measure => simp [intOf]; omega
    · have htk : l.take j = l := List.take_of_length_le (by omega)
      have hown := HOWN.out
      rw [htk] at hown
      obtain ⟨A9, c9, hv⟩ := (hown.sl RSub.ok).shape
      subst hv
      have HOW := hide hown
      clear htk hown hb
      go_wp2_with fail
      go_ret
      refine ⟨A9, c9, S, rfl, ?_, ?_, HB.out⟩
      · rw [← HBASE.out]; exact HOW.out
      · rw [← HBASE.out]; exact HS.out
end Go.Proofs.YtodapmkdmkhhfaaGreatDoor

/- The functions of package subtree: Add. -/
namespace Go.Proofs.YtodapmkdmkhhfaaGreatDoor
open Go.RowKit

/-- a variable that holds a state -/
def TB (g : Nat) (u : Value) (W : World) : Prop := W.heap[g]? = some (.cells #[u] 24 (0, 0))
theorem TB.facts {g : Nat} {u : Value} {W : World} (h : TB g u W) : W.cell? ⟨g, 0, none⟩ = some u ∧ W.frozen? ⟨g, 0, none⟩ = false := by
  unfold TB at h
  simp [World.cell?, World.frozen?, h]
theorem TB.lt {g : Nat} {u : Value} {W : World} (h : TB g u W) : g < W.heap.size := (Array.getElem?_eq_some_iff.1 h).1
theorem TB.below {g B : Nat} {u : Value} {W W' : World} (h : TB g u W) (hb : Below B W W') (hg : g < B) : TB g u W' := (hb.block g hg).trans h
theorem TB.store {g : Nat} {u : Value} {W : World} (h : TB g u W) (a : Value) : TB g a (W.setCell ⟨g, 0, none⟩ a) := by
  unfold TB at *
  simp [World.setCell, Array.getElem?_modify, h]

set_option maxRecDepth 100000 in
set_option maxHeartbeats 8000000 in
theorem Add_any (st : List Sub) (p x : List Gen) (B A1 A2 : Option Addr) (d c1 c2 : Nat) (hln : st.length ≤ 1000) (hcp : ∀ s ∈ st, CpS s) (hs : CpS (p, x)) (w : World) (h0 : Sl RSub 2 w (Lt w.heap.size) st [.slice B st.length d])
    (h1 : Sl RGen 3 w (Lt w.heap.size) p [.slice A1 p.length c1]) (h2 : Sl RGen 3 w (Lt w.heap.size) x [.slice A2 x.length c2]) :
    Calls Tryz.prog 15 #[.agg #[.slice B st.length d], .agg #[.slice A1 p.length c1, .slice A2 x.length c2]] w fun e w' => ∃ (B' : Option Addr) (d' : Nat), e = .returned (.agg #[.slice B' (st ++ [(p, x)]).length d']) ∧ Sl RSub 2 w' (Btw w.heap.size w'.heap.size) (st ++ [(p, x)]) [.slice B' (st ++ [(p, x)]).length d'] ∧ Below w.heap.size w w' := by
  obtain ⟨wa, hwa⟩ : ∃ wa, wa = ((w.alloc (.cells #[.slice B st.length d] 24)).alloc (.cells #[.slice A1 p.length c1, .slice A2 x.length c2] 27)).alloc (.cells #[.slice none 0 0] 24) := ⟨_, rfl⟩
  have hz1 : (w.alloc (.cells #[.slice B st.length d] 24)).heap.size = w.heap.size + 1 := by simp
  have hz2 : ((w.alloc (.cells #[.slice B st.length d] 24)).alloc (.cells #[.slice A1 p.length c1, .slice A2 x.length c2] 27)).heap.size = w.heap.size + 2 := by simp
  have y0 : wa.cell? ⟨w.heap.size, 0, none⟩ = some (.slice B st.length d) := by rw [hwa, World.cell?_alloc_lt _ _ _ (by simp; omega), World.cell?_alloc_lt _ _ _ (by simp), World.cell?_alloc_new]; rfl
  have y1 : wa.cell? ⟨w.heap.size + 1, 0, none⟩ = some (.slice A1 p.length c1) := by rw [hwa, World.cell?_alloc_lt _ _ _ (by simp), ← hz1, World.cell?_alloc_new]; rfl
  have y2 : wa.cell? ⟨w.heap.size + 1, 1, none⟩ = some (.slice A2 x.length c2) := by rw [hwa, World.cell?_alloc_lt _ _ _ (by simp), ← hz1, World.cell?_alloc_new]; rfl
  have hg : TB (w.heap.size + 2) (.slice none 0 0) wa := by
    unfold TB
    rw [hwa, ← hz2]
    exact heap_alloc_new _ _
  have hba : Below w.heap.size w wa := by rw [hwa]; exact (((Below.refl _ _).alloc (Nat.le_refl _) _).alloc (by simp) _).alloc (by simp; omega) _
  have hza : wa.heap.size = w.heap.size + 3 := by rw [hwa]; simp
  obtain ⟨gg, hgg⟩ : ∃ gg, gg = w.heap.size + 2 := ⟨_, rfl⟩
  rw [← hgg] at hg
  have hgw : TB gg (.slice none 0 0) wa.drew := hg
  have y0d : wa.drew.cell? ⟨w.heap.size, 0, none⟩ = some (.slice B st.length d) := y0
  have y1d : wa.drew.cell? ⟨w.heap.size + 1, 0, none⟩ = some (.slice A1 p.length c1) := y1
  have y2d : wa.drew.cell? ⟨w.heap.size + 1, 1, none⟩ = some (.slice A2 x.length c2) := y2
  have hbad : Below w.heap.size w wa.drew := hba.drew
  have hzd : wa.drew.heap.size = w.heap.size + 3 := hza
  have K0 := hide ((Sl.ok RSub.ok).below h0 hbad)
  have E0 := hide (eachSub_any st B d hln hcp wa.drew ((Sl.ok RSub.ok).below h0 hbad))
  have E1 := hide (fun W (hb : Below w.heap.size w W) => clone_any p x A1 A2 c1 c2 hs.1 hs.2 W ((Sl.ok RGen.ok).below h1 hb) ((Sl.ok RGen.ok).below h2 hb))
  have HG := hide hg
  have HGW := hide hgw
  have HWA := hide hwa
  have HZA := hide hzd
  have HGG := hide hgg
  have hlc : (st ++ [(p, x)]).length = st.length + 1 := by simp
  clear hwa hg hgw hza hzd hs hcp h0 h1 h2 hgg hz1 hz2
  go_enter Tryz.func15, Tryz.ntmps15
  go_upto_region 1 with (fail)
  rw [← HWA.out, ← HGG.out]
  go_region_law (first
      | (go_simp; go_at_call 40; refine E0.out.mono ?_; rintro e w5 ⟨A5, c5, S5, rfl, hown5, hS5, hb5⟩; have hs1 := cell_grows hb5 _ _ y0d; have hs2 := cell_grows hb5 _ _ y1d; have hs3 := cell_grows hb5 _ _ y2d; have hs4 := hbad.trans (hb5.mono hbad.size))
      | (go_simp; go_at_call 41; refine (E1.out w5 hs4).mono ?_; rintro e w6 ⟨A6, A7, c6, c7, rfl, hsl6, hsl7, hb6⟩; have hs1 := cell_grows hb6 _ _ hs1; have hs2 := cell_grows hb6 _ _ hs2; have hs3 := cell_grows hb6 _ _ hs3; have hs4 := hs4.trans (hb6.mono hs4.size); obtain ⟨S', hc1, hc2, hc3⟩ := sub_step hown5 hS5 hb5.size (Below.refl _ _) hb6 hsl6 hsl7; have hz5 := hb5.size; have hz6 := hb6.size; have hzz := HZA.out; have ha1 := fun ob => (World.cell?_alloc_lt w6 ob ⟨w.heap.size, 0, none⟩ (by simp; omega)).trans hs1; have ha2 := fun ob => (World.cell?_alloc_lt w6 ob ⟨w.heap.size + 1, 0, none⟩ (by simp; omega)).trans hs2; have ha3 := fun ob => (World.cell?_alloc_lt w6 ob ⟨w.heap.size + 1, 1, none⟩ (by simp; omega)).trans hs3; have ha4 := fun ob => hs4.alloc hs4.size ob)
      | (refine step_app RSub.ok _ ?_ (.tmp 7) (.tmp 10) 22 ?_ wa.drew.heap.size 27 (.agg #[.slice none 0 0, .slice none 0 0]) 48 Tryz.underlying22 info_sub rfl (by decide) S' (.slice A5 st.length c5) st ?_ hc1 ⟨w6.heap.size, 0, none⟩ 1 1 [(p, x)] ?_ rfl ?_ (fun b hb => (hc3 b hb).2) ?_ ?_ ?_ ?_; rfl; rfl; rfl; rfl; exact hc2; (simp; omega); (simp [maxLen]; omega); (rw [World.size_alloc]; omega); intro v7 w7 hown7 hgr7 hb7 hat7; obtain ⟨A8, c8, hv8⟩ := (hown7.sl RSub.ok).shape; obtain ⟨n8, hn8⟩ : ∃ n8, (st ++ [((p, x) : Sub)]).length = n8 := ⟨_, rfl⟩; rw [hn8] at hv8; subst hv8; have HN8 := hide hn8; clear hn8; have hs1 := (hb7.cell (p := ⟨w.heap.size, 0, none⟩) (by show w.heap.size < wa.drew.heap.size; omega)).trans (ha1 _); have hs2 := (hb7.cell (p := ⟨w.heap.size + 1, 0, none⟩) (by show w.heap.size + 1 < wa.drew.heap.size; omega)).trans (ha2 _); have hs3 := (hb7.cell (p := ⟨w.heap.size + 1, 1, none⟩) (by show w.heap.size + 1 < wa.drew.heap.size; omega)).trans (ha3 _); have hs4 := (ha4 _).trans (hb7.mono (by omega)); have hg7 := (((HGW.out.below hb5 (by have := HGG.out; omega)).below hb6 (by have := HGG.out; omega)).below ((Below.refl _ _).alloc (Nat.le_refl _) (.cells #[.slice A6 p.length c6, .slice A7 x.length c7] 27)) (by have := HGG.out; omega)).below hb7 (by have := HGG.out; omega); have q1 := hg7.facts.1; have q2 := hg7.facts.2))
  all_goals
    have hst := hg7.store (.slice A8 n8 c8)
    have hz7 := hb7.size
    rw [World.size_alloc] at hz7
    have hgk := HGG.out
    have hrng : ∀ k, (S' k ∨ (wa.drew.heap.size ≤ k ∧ k < w7.heap.size)) → wa.drew.heap.size ≤ k ∧ k < w7.heap.size := fun k hk => by
      rcases hk with hk | hk
      · have := hc3 k hk
        rw [World.size_alloc] at this
        omega
      · exact hk
    have hsl := (Sl.ok RSub.ok).mono (hown7.sl RSub.ok) (w' := w7.setCell ⟨gg, 0, none⟩ (.slice A8 n8 c8)) (S' := Btw w.heap.size (w7.setCell ⟨gg, 0, none⟩ (.slice A8 n8 c8)).heap.size)
      (fun k hk => Below.heap_setCell _ ⟨gg, 0, none⟩ _ k (by show k ≠ gg; have := hrng k hk; omega)) (fun k hk => ⟨by have := hrng k hk; omega, by have := (hrng k hk).2; simp; omega⟩)
    have hbz := hs4.setCell (p := ⟨gg, 0, none⟩) (by show w.heap.size ≤ gg; omega) (.slice A8 n8 c8)
    obtain ⟨W3, hW3⟩ : ∃ W3, W3 = w7.setCell ⟨gg, 0, none⟩ (.slice A8 n8 c8) := ⟨_, rfl⟩
    rw [← hW3] at hst hsl hbz
    try rw [← hW3]
    have q8 := hst.facts.1
    go_wp2_with fail
    exact bodyPost_ret (v := .agg #[.slice A8 n8 c8]) (by simp [results, Tryz.results15, go_sem, q8]) rfl ⟨A8, c8, by rw [HN8.out], by rw [HN8.out]; exact hsl, hbz⟩
end Go.Proofs.YtodapmkdmkhhfaaGreatDoor
