/- The reference's add, PermitsReduced. -/
import Derived.Test.YtodapmkdmkhhfaaGreatDoorRefN
namespace Go.Proofs.YtodapmkdmkhhfaaGreatDoor
open Go.RowKit

theorem news_gen {w : World} {S0 : Nat → Prop} {k : Int} {t : ByteArray} {n : Name} {A : Option Addr} {c : Nat} {T : TypeId} (h1 : Sl RRdn 1 w S0 n [.slice A n.length c]) (hb : ∀ j, S0 j → j < w.heap.size) :
    ∀ i z, [((k, t.data.toList, n) : Gen)][i]? = some z → ∃ cs, RGen (w.alloc (.cells #[.int .i64 k, .string t, .slice A n.length c] T)) S0 z cs ∧ ∀ j u, cs[j]? = some u → (w.alloc (.cells #[.int .i64 k, .string t, .slice A n.length c] T)).cell? ((⟨w.heap.size, 0, none⟩ : Addr).add (i * 3 + j)) = some u := fun i z hz => by
  match i, hz with
  | 0, hz =>
    simp at hz; subst hz
    refine ⟨[.int .i64 k, .string t, .slice A n.length c], ⟨_, rfl, (Sl.ok RRdn.ok).mono h1 (fun j hj => Below.heap_alloc _ _ j (hb j hj)) (fun j hj => hj)⟩, fun j u hu => ?_⟩
    rw [Addr.add_lit, Nat.zero_mul, Nat.zero_add, Nat.zero_add, World.cell?_alloc_new]
    simpa using hu

def RAddPost (w : World) (base : Nat) (S0 : Nat → Prop) (v : Value) (l : List Gen) (e : Ending) (w' : World) : Prop :=
  ∃ (A : Option Addr) (c : Nat), e = .returned (.slice A l.length c) ∧ Own RGen 3 32 w' base S0 (.slice A l.length c) l ∧ w.grownBy w' v.ownBlock ∧
    ((Value.slice A l.length c).ownBlock = v.ownBlock ∨ ∃ g, (Value.slice A l.length c).ownBlock = some g ∧ w.heap.size ≤ g)

set_option maxRecDepth 100000 in
set_option maxHeartbeats 8000000 in
theorem radd_any (l : List Gen) (B : Option Addr) (d base : Nat) (S0 : Nat → Prop) (k : Int) (t : ByteArray) (n : Name) (A : Option Addr) (c : Nat) (w : World) (hln : l.length ≤ 1000000) (hbase : base ≤ w.heap.size) (hs0 : ∀ j, S0 j → j < base) (hl : SmallGs l) (ht : t.size ≤ 100000) (hn : SmallN n)
    (hown : Own RGen 3 32 w base S0 (.slice B l.length d) l) (h1 : Sl RRdn 1 w S0 n [.slice A n.length c]) :
    Calls Tryz.prog 49 #[.slice B l.length d, .agg #[.int .i64 k, .string t, .slice A n.length c]] w (RAddPost w base S0 (.slice B l.length d) (addG l (k, t.data.toList, n))) := by
  have h2 : Sl RGen 3 w (Lt w.heap.size) l [.slice B l.length d] := (Sl.ok RGen.ok).mono (hown.sl RGen.ok) (fun _ _ => rfl) (fun j hj => by
    rcases hj with hj | hj
    · exact Nat.lt_of_lt_of_le (hs0 _ hj) hbase
    · exact hj.2)
  obtain ⟨-, hlc, hlm⟩ := h2.len_
  unfold maxLen at hlm
  have K1 := hide h1
  have K3 := hide (show Sl RRdn 1 w (Lt w.heap.size) n [.slice A n.length c] from (Sl.ok RRdn.ok).mono h1 (fun _ _ => rfl) (fun j hj => Nat.lt_of_lt_of_le (hs0 _ hj) hbase))
  have K2 := hide h2
  have HL := hide hl
  have HN := hide hn
  have HOWN := hide hown
  obtain ⟨gg, hgg⟩ : ∃ gg : Gen, gg = (k, t.data.toList, n) := ⟨_, rfl⟩
  have HGG := hide hgg
  clear h1 h2 hl hn hown hgg
  go_enter Tryz.func49, Tryz.ntmps49
  go_wp2_with fail
  obtain ⟨wa, hwa⟩ : ∃ wa, wa = w.alloc (.cells #[.int .i64 k, .string t, .slice A n.length c] 32) := ⟨_, rfl⟩
  have a0 : wa.cell? ⟨w.heap.size, 0, none⟩ = some (.int .i64 k) := by rw [hwa, World.cell?_alloc_new]; rfl
  have a1 : wa.cell? ⟨w.heap.size, 1, none⟩ = some (.string t) := by rw [hwa, World.cell?_alloc_new]; rfl
  have a2 : wa.cell? ⟨w.heap.size, 2, none⟩ = some (.slice A n.length c) := by rw [hwa, World.cell?_alloc_new]; rfl
  have hba : Below w.heap.size w wa := by rw [hwa]; exact (Below.refl _ _).alloc (Nat.le_refl _) _
  rw [← hwa]
  have A0 := hide a0
  have A1 := hide a1
  have A2 := hide a2
  have HBA := hide hba
  clear hwa a0 a1 a2 hba
  go_loopw [9] (fun i wr => ∃ j : Nat, j ≤ l.length ∧ i = .int .i64 j ∧ Below wa.heap.size wa wr ∧ Hid (l.any (fun x => sameG x gg) = (l.drop j).any (fun x => sameG x gg))) (fun i _ => l.length - (intOf i).toNat)
  case atStart => exact ⟨0, Nat.zero_le _, rfl, Below.refl _ _, rfl⟩
  case round =>
    obtain ⟨j, hj, rfl, hb, H⟩ := hrel
    have hbw := HBA.out.trans (hb.mono HBA.out.size)
    have HBW := hide hbw
    by_cases hlt : j < l.length
    · obtain ⟨b2, o2, t2, A2', c2, hB, hbS, ht2, d0, d1, d2, hsl⟩ := K2.out.genAt hlt
      subst hB
      have hbS' : b2 < w.heap.size := hbS
      obtain ⟨hsb1, hsb2⟩ := HL.out l[j] (List.getElem_mem hlt)
      have hts2 := size_of_list ht2 hsb1
      obtain ⟨kb, hkb⟩ : ∃ kb, l[j].1 = kb := ⟨_, rfl⟩
      obtain ⟨nb, hnb⟩ : ∃ nb, l[j].2.2 = nb := ⟨_, rfl⟩
      have hbe : l[j] = (kb, t2.data.toList, nb) := by rw [← hkb, ← hnb, ht2]
      obtain ⟨p, hp⟩ : ∃ p, sameG (kb, t2.data.toList, nb) (k, t.data.toList, n) = p := ⟨_, rfl⟩
      have HX2 := hide (show l.any (fun x => sameG x gg) = (p || (l.drop (j + 1)).any (fun x => sameG x gg)) by rw [H.out, List.drop_eq_getElem_cons hlt, List.any_cons, hbe, HGG.out, hp])
      have HP := hide hp
      rw [hkb] at d0
      rw [hnb] at d2 hsl hsb2
      have e0 := cell_grows hb _ _ A0.out
      have e1 := cell_grows hb _ _ A1.out
      have e2 := cell_grows hb _ _ A2.out
      have f0 := (hbw.cell (p := ⟨b2, o2 + j * 3, none⟩) hbS').trans d0
      have f1 := (hbw.cell (p := ⟨b2, o2 + j * 3 + 1, none⟩) hbS').trans d1
      have f2 := (hbw.cell (p := ⟨b2, o2 + j * 3 + 2, none⟩) hbS').trans d2
      have hgl : w.heap.size < wr.heap.size := World.block_lt_of_cell? wr ⟨w.heap.size, 0, none⟩ e0
      have q0 : ∀ ob, (wr.alloc ob).cell? ⟨w.heap.size, 0, none⟩ = some (.int .i64 k) := fun ob => (World.cell?_alloc_lt wr ob ⟨w.heap.size, 0, none⟩ hgl).trans e0
      have q1 : ∀ ob, (wr.alloc ob).cell? ⟨w.heap.size, 1, none⟩ = some (.string t) := fun ob => (World.cell?_alloc_lt wr ob ⟨w.heap.size, 1, none⟩ hgl).trans e1
      have q2 : ∀ ob, (wr.alloc ob).cell? ⟨w.heap.size, 2, none⟩ = some (.slice A n.length c) := fun ob => (World.cell?_alloc_lt wr ob ⟨w.heap.size, 2, none⟩ hgl).trans e2
      have hbc : Below wr.heap.size wr (wr.alloc (.cells #[.int .i64 kb, .string t2, .slice A2' nb.length c2] 32)) := (Below.refl _ _).alloc (Nat.le_refl _) _
      have hbwc := hbw.trans (hbc.mono hbw.size)
      have S1 := hide ((Sl.ok RRdn.ok).below K3.out hbwc)
      have S2 := hide ((Sl.ok RRdn.ok).below hsl hbwc)
      have HSB := hide hsb2
      have HBC := hide (hb.trans (hbc.mono hb.size))
      clear hb hbw d0 d1 d2 hsl hsb2 hkb hnb hbe hp e0 e1 e2 ht2 hsb1 hbc hbwc H
      go_wp2_with fail
      refine (rgSame_any kb k t2 t nb n A2' A c2 c (by omega) (by omega) HSB.out HN.out p HP.out _ S2.out S1.out).mono ?_
      rintro e w5 ⟨rfl, hb5⟩
      have HB5 := hide (HBC.out.trans (hb5.mono HBC.out.size))
      clear hb5 q0 q1 q2 f0 f1 f2
      cases p
      · have HY := hide (show l.any (fun x => sameG x gg) = (l.drop (j + 1)).any (fun x => sameG x gg) by rw [HX2.out, Bool.false_or])
        go_wp2_with fail
        go_roundw
        case rel => exact ⟨j + 1, by omega, by go_num, HB5.out, HY⟩
        case measure => simp [intOf]; omega
      · have HY2 := hide (show addG l (k, t.data.toList, n) = l by rw [← HGG.out, addG, HX2.out, Bool.true_or, if_pos rfl])
        have HW5 := hide (HBA.out.trans (HB5.out.mono HBA.out.size))
        go_wp2_with fail
        go_ret
        unfold RAddPost
        rw [HY2.out]
        exact ⟨some ⟨b2, o2, none⟩, d, rfl, HOWN.out.below RGen.ok (fun j hj => Nat.lt_of_lt_of_le (hs0 _ hj) hbase) HW5.out, ⟨HW5.out.os, HW5.out.tape, HW5.out.output, HW5.out.size, fun k hk _ => HW5.out.block k hk⟩, .inl rfl⟩
    · have hY : addG l gg = l ++ [gg] := by rw [addG, H.out, List.drop_of_length_le (by omega)]; rfl
      have HY2 := hide (show addG l (k, t.data.toList, n) = l ++ [(k, t.data.toList, n)] by rw [← HGG.out]; exact hY)
      have e0 := cell_grows hb _ _ A0.out
      have e1 := cell_grows hb _ _ A1.out
      have e2 := cell_grows hb _ _ A2.out
      have hzw := hbw.size
      have hown5 := HOWN.out.below RGen.ok (fun j hj => Nat.lt_of_lt_of_le (hs0 _ hj) hbase) hbw
      have hc1 := hown5.alloc RGen.ok (fun j hj => Nat.lt_of_lt_of_le (hs0 j hj) (show base ≤ wr.heap.size by omega)) (.cells #[.int .i64 k, .string t, .slice A n.length c] 32)
      have hk1 : Sl RRdn 1 wr S0 n [.slice A n.length c] := (Sl.ok RRdn.ok).mono K1.out (fun j hj => hbw.block j (Nat.lt_of_lt_of_le (hs0 _ hj) hbase)) (fun j hj => hj)
      have hc2 := news_gen (k := k) (t := t) (T := 32) hk1 (fun j hj => Nat.lt_of_lt_of_le (hs0 j hj) (show base ≤ wr.heap.size by omega))
      have hc3 : ∀ (ob : Obj) (b : Nat), S0 b → b < (wr.alloc ob).heap.size := fun ob b hb => by
        rw [World.size_alloc]
        exact Nat.lt_succ_of_lt (Nat.lt_of_lt_of_le (hs0 b hb) (show base ≤ wr.heap.size by omega))
      clear hb hbw hY H hown5 hk1
      go_wp2_with (first
        | (at_builtin; refine wpList_app RGen.ok _ rfl (.tmp 18) (.tmp 20) 25 rfl base 32 (.agg #[.int .i64 0, .string ⟨#[]⟩, .slice none 0 0]) 48 Tryz.underlying25 info_gen rfl (by decide) _ _ l rfl hc1 ⟨_, 0, none⟩ 1 1 [(k, t.data.toList, n)] rfl rfl hc2 (hc3 _) (by simp; omega) (by simp [maxLen]; omega) (by rw [World.size_alloc]; omega) ?_; intro v6 w6 hown6 hgr6 hb6 hat6)
        | fail)
      go_ret
      obtain ⟨A6, c6, hv6⟩ := (hown6.sl RGen.ok).shape
      subst hv6
      unfold RAddPost
      rw [HY2.out]
      have hg6 := hgr6.size
      rw [World.size_alloc] at hg6
      refine ⟨A6, c6, rfl, hown6, ⟨hgr6.os.trans HBW.out.os, hgr6.tape.trans HBW.out.tape, hgr6.output.trans HBW.out.output, by omega, fun k hk hne => (hgr6.block k (by rw [World.size_alloc]; omega) hne).trans ((Below.heap_alloc _ _ k (by omega)).trans (HBW.out.block k hk))⟩, ?_⟩
      rcases hat6 with h | h
      · exact .inl h
      · exact .inr ⟨_, h, by rw [World.size_alloc]; omega⟩

set_option maxRecDepth 100000 in
set_option maxHeartbeats 8000000 in
theorem rpermitsR_any (g : Gen) (t : ByteArray) (A : Option Addr) (c : Nat) (lim : List Int) (per ex : List Gen) (B1 B2 B3 : Option Addr) (d1 d2 d3 : Nat) (ht : t.data.toList = g.2.1) (hg : SmallG g) (hl2 : SmallGs per) (hl3 : SmallGs ex) (q : Bool) (hq : permitsR lim per ex g = q) (w : World) (hmx : Mx w)
    (h0 : Sl RRdn 1 w (Lt w.heap.size) g.2.2 [.slice A g.2.2.length c]) (h1 : Sl RInt 1 w (Lt w.heap.size) lim [.slice B1 lim.length d1]) (h2 : Sl RGen 3 w (Lt w.heap.size) per [.slice B2 per.length d2]) (h3 : Sl RGen 3 w (Lt w.heap.size) ex [.slice B3 ex.length d3]) :
    Calls Tryz.prog 29 #[.agg #[.slice B1 lim.length d1, .slice B2 per.length d2, .slice B3 ex.length d3], .agg #[.int .i64 g.1, .string t, .slice A g.2.2.length c]] w fun e w' => e = .returned (.bool q) ∧ Below w.heap.size w w' := by
  obtain ⟨-, hlc, hlm⟩ := h1.len_
  unfold maxLen at hlm
  have HMX := hide hmx
  have K0 := hide h0
  have K1 := hide h1
  have K2 := hide h2
  have K3 := hide h3
  obtain ⟨pe, hpe⟩ : ∃ p, insideG g ex = p := ⟨_, rfl⟩
  obtain ⟨pp, hpp⟩ : ∃ p, insideG g per = p := ⟨_, rfl⟩
  have IE := hide (fun W hm hn hs => rIn_any g t A c ex B3 d3 ht hg hl3 pe hpe W hm hn hs)
  have IP := hide (fun W hm hn hs => rIn_any g t A c per B2 d2 ht hg hl2 pp hpp W hm hn hs)
  have HQ := hide (show (!pe && (if (false || (lim.drop 0).any (fun k => k == g.1)) = true then pp else true)) = q by rw [← hq, permitsR, hpe, hpp]; rfl)
  obtain ⟨wa, hwa⟩ : ∃ wa, wa = (w.alloc (.cells #[.slice B1 lim.length d1, .slice B2 per.length d2, .slice B3 ex.length d3] 53)).alloc (.cells #[.int .i64 g.1, .string t, .slice A g.2.2.length c] 32) := ⟨_, rfl⟩
  have hz : (w.alloc (.cells #[.slice B1 lim.length d1, .slice B2 per.length d2, .slice B3 ex.length d3] 53)).heap.size = w.heap.size + 1 := by simp
  have s0 : wa.cell? ⟨w.heap.size, 0, none⟩ = some (.slice B1 lim.length d1) := by rw [hwa, World.cell?_alloc_lt _ _ _ (by simp), World.cell?_alloc_new]; rfl
  have s1 : wa.cell? ⟨w.heap.size, 1, none⟩ = some (.slice B2 per.length d2) := by rw [hwa, World.cell?_alloc_lt _ _ _ (by simp), World.cell?_alloc_new]; rfl
  have s2 : wa.cell? ⟨w.heap.size, 2, none⟩ = some (.slice B3 ex.length d3) := by rw [hwa, World.cell?_alloc_lt _ _ _ (by simp), World.cell?_alloc_new]; rfl
  have a0 : wa.cell? ⟨w.heap.size + 1, 0, none⟩ = some (.int .i64 g.1) := by rw [hwa, ← hz, World.cell?_alloc_new]; rfl
  have a1 : wa.cell? ⟨w.heap.size + 1, 1, none⟩ = some (.string t) := by rw [hwa, ← hz, World.cell?_alloc_new]; rfl
  have a2 : wa.cell? ⟨w.heap.size + 1, 2, none⟩ = some (.slice A g.2.2.length c) := by rw [hwa, ← hz, World.cell?_alloc_new]; rfl
  have hba : Below w.heap.size w wa := by rw [hwa]; exact ((Below.refl _ _).alloc (Nat.le_refl _) _).alloc (by simp) _
  obtain ⟨gg, hgg⟩ : ∃ gg, gg = w.heap.size + 1 := ⟨_, rfl⟩
  rw [← hgg] at a0 a1 a2
  have HGG := hide hgg
  have HWA := hide hwa
  have HBA := hide hba
  have HMA := hide (HMX.out.below hba)
  have N0 := hide ((Sl.ok RRdn.ok).below h0 hba)
  have N1 := hide (show ∀ (k : Nat), k < lim.length → ∃ b off : Nat, B1 = some ⟨b, off, none⟩ ∧ wa.cell? ⟨b, off + k, none⟩ = some (.int .i64 (lim.getD k 0)) from fun k hk => by
    obtain ⟨b2, o2, hB, hbS, d0⟩ := h1.intAt hk
    refine ⟨b2, o2, hB, (hba.cell (p := ⟨b2, o2 + k, none⟩) hbS).trans ?_⟩
    rw [d0, List.getD_eq_getElem?_getD, List.getElem?_eq_getElem hk]; rfl)
  have N2 := hide ((Sl.ok RGen.ok).below h2 hba)
  have N3 := hide ((Sl.ok RGen.ok).below h3 hba)
  obtain ⟨k9, hk9⟩ : ∃ k9, g.1 = k9 := ⟨_, rfl⟩
  rw [hk9] at HQ hwa a0
  have HK9 := hide hk9
  clear hmx h0 h1 h2 h3 hpe hpp hl2 hl3 hq hg ht hz hgg hba
  rw [hk9]
  clear hk9 HWA
  have HWA := hide hwa
  clear hwa
  go_enter Tryz.func29, Tryz.ntmps29
  go_upto_region 1 with (fail)
  rw [← HWA.out, ← HGG.out]
  go_wp2_with fail
  go_loopw [5, 11] (fun bb i wr => ∃ (k : Nat) (f : Bool), k ≤ lim.length ∧ i = .int .i64 k ∧ bb = .bool f ∧ wa = wr ∧ Hid ((!pe && (if (f || (lim.drop k).any (fun k => k == k9)) = true then pp else true)) = q)) (fun _ i _ => lim.length - (intOf i).toNat)
  case atStart => exact ⟨0, false, Nat.zero_le _, rfl, rfl, rfl, HQ⟩
  case round =>
    obtain ⟨k, f, hk, rfl, rfl, rfl, H⟩ := hrel
    by_cases hlt : k < lim.length
    · obtain ⟨b2, o2, hB, f0⟩ := N1.out k hlt
      subst hB
      obtain ⟨kb, hkb⟩ : ∃ kb, lim[k] = kb := ⟨_, rfl⟩
      rw [List.getD_eq_getElem?_getD, List.getElem?_eq_getElem hlt, Option.getD_some, hkb] at f0
      cases f
      · have HX := hide (show (!pe && (if ((kb == k9) || (lim.drop (k + 1)).any (fun k => k == k9)) = true then pp else true)) = q by
          rw [← H.out, List.drop_eq_getElem_cons hlt, List.any_cons, hkb, Bool.false_or])
        clear H hkb
        go_wp2_with fail
        go_roundw
        case rel => exact ⟨k + 1, kb == k9, by omega, by go_num, rfl, trivial, HX⟩
        case measure => simp [intOf]; omega
      · have HX := hide (show (!pe && (if (true || (lim.drop (k + 1)).any (fun k => k == k9)) = true then pp else true)) = q by
          rw [← H.out, Bool.true_or, Bool.true_or])
        clear H hkb
        go_wp2_with fail
        go_roundw
        case rel => exact ⟨k + 1, true, by omega, by go_num, rfl, trivial, HX⟩
        case measure => simp [intOf]; omega
    · have HY := hide (show (!pe && (if f = true then pp else true)) = q by rw [← H.out, List.drop_of_length_le (by omega)]; simp)
      clear H
      have IE2 := IE.out wa HMA.out N0.out N3.out
      rw [HK9.out] at IE2
      go_wp2_with fail
      refine IE2.mono ?_
      rintro e w5 ⟨rfl, hb5⟩
      have HB5 := hide (HBA.out.trans (hb5.mono HBA.out.size))
      cases pe
      · cases f
        · have HZ := hide (show true = q from HY.out)
          clear hb5
          go_wp2_with fail
          go_ret
          exact ⟨ret_bool HZ.out, HB5.out⟩
        · have HZ := hide (show pp = q from HY.out)
          have a0 := cell_grows hb5 _ _ a0
          have a1 := cell_grows hb5 _ _ a1
          have a2 := cell_grows hb5 _ _ a2
          have s1 := cell_grows hb5 _ _ s1
          have IP2 := IP.out w5 (HMA.out.below hb5) ((Sl.ok RRdn.ok).below N0.out hb5) ((Sl.ok RGen.ok).below N2.out hb5)
          rw [HK9.out] at IP2
          clear hb5 s0 s2
          go_wp2_with fail
          refine IP2.mono ?_
          rintro e w6 ⟨rfl, hb6⟩
          have HB6 := hide (HB5.out.trans (hb6.mono HB5.out.size))
          clear hb6
          go_wp2_with fail
          go_ret
          exact ⟨ret_bool HZ.out, HB6.out⟩
      · have HZ := hide (show false = q from HY.out)
        clear hb5
        go_wp2_with fail
        go_ret
        exact ⟨ret_bool HZ.out, HB5.out⟩
end Go.Proofs.YtodapmkdmkhhfaaGreatDoor
