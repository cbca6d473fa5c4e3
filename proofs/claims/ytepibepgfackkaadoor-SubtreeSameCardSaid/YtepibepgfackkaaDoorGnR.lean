/- The functions of package subtree: add, PermitsReduced. -/
import Derived.Test.YtepibepgfackkaaDoorGnP
import Derived.Test.YtepibepgfackkaaDoorGnQ
import Derived.Test.YtepibepgfackkaaDoorGn2
namespace Go.Proofs.YtepibepgfackkaaDoor
open Go.RowKit

theorem gen_step2 {w W w1 : World} {base : Nat} {S : Nat → Prop} {v : Value} {l : List Gen} {k : Int} {t : ByteArray} {n : Name} {A1 : Option Addr} {c1 : Nat} (hown : Own RGen 3 61 w base S v l) (hS : ∀ j, S j → j < w.heap.size)
    (hbW : Below w.heap.size w W) (hb : Below W.heap.size W w1) (h1 : Sl RRdn 1 w1 (Btw W.heap.size w1.heap.size) n [.slice A1 n.length c1]) :
    Own RGen 3 61 (w1.alloc (.cells #[.int .i64 k, .string t, .slice A1 n.length c1] 61)) base (fun j => S j ∨ (w.heap.size ≤ j ∧ j < w1.heap.size)) v l ∧
      (∀ i z, [((k, t.data.toList, n) : Gen)][i]? = some z → ∃ cs, RGen (w1.alloc (.cells #[.int .i64 k, .string t, .slice A1 n.length c1] 61)) (fun j => S j ∨ (w.heap.size ≤ j ∧ j < w1.heap.size)) z cs ∧ ∀ j u, cs[j]? = some u → (w1.alloc (.cells #[.int .i64 k, .string t, .slice A1 n.length c1] 61)).cell? ((⟨w1.heap.size, 0, none⟩ : Addr).add (i * 3 + j)) = some u) := by
  have hz := hb.size
  have hzW := hbW.size
  have hnoS : ∀ g, v.ownBlock = some g → ¬ (S g ∨ (w.heap.size ≤ g ∧ g < w1.heap.size)) := fun g hg hh => by
    have hlt := (hown.lt g hg).2
    rcases hh with hh | hh
    · obtain ⟨_, _, h2, _⟩ := hown
      exact h2 g hg hh
    · omega
  have hbb : Below w.heap.size w w1 := hbW.trans (hb.mono hbW.size)
  have hownO := ((hown.below RGen.ok hS hbb).more RGen.ok (S' := fun j => S j ∨ (w.heap.size ≤ j ∧ j < w1.heap.size)) (fun j hj => .inl hj) hnoS)
  have hS2 : ∀ j, (S j ∨ (w.heap.size ≤ j ∧ j < w1.heap.size)) → j < w1.heap.size := fun j hj => by
    rcases hj with hj | hj
    · have := hS j hj; omega
    · omega
  have hownA := hownO.alloc RGen.ok hS2 (.cells #[.int .i64 k, .string t, .slice A1 n.length c1] 61)
  refine ⟨hownA, fun i z hz => ?_⟩
  match i, hz with
  | 0, hz =>
    simp at hz; subst hz
    refine ⟨[.int .i64 k, .string t, .slice A1 n.length c1], ⟨_, rfl, (Sl.ok RRdn.ok).mono h1 (fun j hj => Below.heap_alloc _ _ j hj.2) (fun j hj => .inr ⟨by have := hj.1; omega, hj.2⟩)⟩, fun j u hu => ?_⟩
    rw [Addr.add_lit, Nat.zero_mul, Nat.zero_add, Nat.zero_add, World.cell?_alloc_new]
    simpa using hu

def AddPost (w : World) (base : Nat) (S : Nat → Prop) (v : Value) (l : List Gen) (e : Ending) (w' : World) : Prop :=
  ∃ (A : Option Addr) (c : Nat) (S' : Nat → Prop), e = .returned (.slice A l.length c) ∧ Own RGen 3 61 w' base S' (.slice A l.length c) l ∧ (∀ j, S' j → S j ∨ (w.heap.size ≤ j ∧ j < w'.heap.size)) ∧ w.grownBy w' v.ownBlock ∧
    ((Value.slice A l.length c).ownBlock = v.ownBlock ∨ ∃ g, (Value.slice A l.length c).ownBlock = some g ∧ w.heap.size ≤ g)

set_option maxRecDepth 100000 in
set_option maxHeartbeats 8000000 in
theorem add_any (l : List Gen) (B : Option Addr) (d base : Nat) (S : Nat → Prop) (k : Int) (t : ByteArray) (n : Name) (A : Option Addr) (c : Nat) (w : World) (hmx : Mx w) (hln : l.length ≤ 1000000) (hbase : base ≤ w.heap.size) (hl : SmallGs l) (ht : t.size ≤ 100000) (hn : SmallN n) (hcp : CpN n)
    (hown : Own RGen 3 61 w base S (.slice B l.length d) l) (hS : ∀ j, S j → j < w.heap.size) (h1 : Sl RRdn 1 w (Lt w.heap.size) n [.slice A n.length c]) :
    Calls Tryd.prog 52 #[.slice B l.length d, .agg #[.int .i64 k, .string t, .slice A n.length c]] w (AddPost w base S (.slice B l.length d) (addG l (k, t.data.toList, n))) := by
  have h2 : Sl RGen 3 w (Lt w.heap.size) l [.slice B l.length d] := (Sl.ok RGen.ok).mono (hown.sl RGen.ok) (fun _ _ => rfl) (fun j hj => by
    rcases hj with hj | hj
    · exact hS j hj
    · exact hj.2)
  obtain ⟨-, hlc, hlm⟩ := h2.len_
  unfold maxLen at hlm
  have HMX := hide hmx
  have K1 := hide h1
  have K2 := hide h2
  have HL := hide hl
  have HN := hide hn
  have HCP := hide hcp
  have HOWN := hide hown
  have HS := hide hS
  obtain ⟨gg, hgg⟩ : ∃ gg : Gen, gg = (k, t.data.toList, n) := ⟨_, rfl⟩
  have HGG := hide hgg
  clear hmx h1 h2 hl hn hcp hown hS hgg
  go_enter Tryd.func52, Tryd.ntmps52
  go_wp2_with fail
  obtain ⟨wa, hwa⟩ : ∃ wa, wa = w.alloc (.cells #[.int .i64 k, .string t, .slice A n.length c] 61) := ⟨_, rfl⟩
  have a0 : wa.cell? ⟨w.heap.size, 0, none⟩ = some (.int .i64 k) := by rw [hwa, World.cell?_alloc_new]; rfl
  have a1 : wa.cell? ⟨w.heap.size, 1, none⟩ = some (.string t) := by rw [hwa, World.cell?_alloc_new]; rfl
  have a2 : wa.cell? ⟨w.heap.size, 2, none⟩ = some (.slice A n.length c) := by rw [hwa, World.cell?_alloc_new]; rfl
  have hba : Below w.heap.size w wa := by rw [hwa]; exact (Below.refl _ _).alloc (Nat.le_refl _) _
  rw [← hwa]
  have A0 := hide a0
  have A1 := hide a1
  have A2 := hide a2
  have HBA := hide hba
  clear hwa a0 a1 a2 hba
  go_loopw [9] (fun i wr => ∃ j : Nat, j ≤ l.length ∧ i = .int .i64 j ∧ Below wa.heap.size wa wr ∧ Hid (l.any (fun x => sameG x gg) = (l.drop j).any (fun x => sameG x gg))) (fun i _ => l.length - (intOf i).toNat)
  case atStart => exact ⟨0, Nat.zero_le _, rfl, Below.refl _ _, rfl⟩
  case round =>
    obtain ⟨j, hj, rfl, hb, H⟩ := hrel
    have hbw := HBA.out.trans (hb.mono HBA.out.size)
    have HBW := hide hbw
    by_cases hlt : j < l.length
    · obtain ⟨b2, o2, t2, A2', c2, hB, hbS, ht2, d0, d1, d2, hsl⟩ := K2.out.genAt hlt
      subst hB
      have hbS' : b2 < w.heap.size := hbS
      obtain ⟨hsb1, hsb2⟩ := HL.out l[j] (List.getElem_mem hlt)
      have hts2 := size_of_list ht2 hsb1
      obtain ⟨kb, hkb⟩ : ∃ kb, l[j].1 = kb := ⟨_, rfl⟩
      obtain ⟨nb, hnb⟩ : ∃ nb, l[j].2.2 = nb := ⟨_, rfl⟩
      have hbe : l[j] = (kb, t2.data.toList, nb) := by rw [← hkb, ← hnb, ht2]
      obtain ⟨p, hp⟩ : ∃ p, sameG (kb, t2.data.toList, nb) (k, t.data.toList, n) = p := ⟨_, rfl⟩
      have HX2 := hide (show l.any (fun x => sameG x gg) = (p || (l.drop (j + 1)).any (fun x => sameG x gg)) by rw [H.out, List.drop_eq_getElem_cons hlt, List.any_cons, hbe, HGG.out, hp])
      have HP := hide hp
      rw [hkb] at d0
      rw [hnb] at d2 hsl hsb2
      have e0 := cell_grows hb _ _ A0.out
      have e1 := cell_grows hb _ _ A1.out
      have e2 := cell_grows hb _ _ A2.out
      have f0 := (hbw.cell (p := ⟨b2, o2 + j * 3, none⟩) hbS').trans d0
      have f1 := (hbw.cell (p := ⟨b2, o2 + j * 3 + 1, none⟩) hbS').trans d1
      have f2 := (hbw.cell (p := ⟨b2, o2 + j * 3 + 2, none⟩) hbS').trans d2
      have hgl : w.heap.size < wr.heap.size := World.block_lt_of_cell? wr ⟨w.heap.size, 0, none⟩ e0
      have q0 : ∀ ob, (wr.alloc ob).cell? ⟨w.heap.size, 0, none⟩ = some (.int .i64 k) := fun ob => (World.cell?_alloc_lt wr ob ⟨w.heap.size, 0, none⟩ hgl).trans e0
      have q1 : ∀ ob, (wr.alloc ob).cell? ⟨w.heap.size, 1, none⟩ = some (.string t) := fun ob => (World.cell?_alloc_lt wr ob ⟨w.heap.size, 1, none⟩ hgl).trans e1
      have q2 : ∀ ob, (wr.alloc ob).cell? ⟨w.heap.size, 2, none⟩ = some (.slice A n.length c) := fun ob => (World.cell?_alloc_lt wr ob ⟨w.heap.size, 2, none⟩ hgl).trans e2
      have hbc : Below wr.heap.size wr (wr.alloc (.cells #[.int .i64 kb, .string t2, .slice A2' nb.length c2] 61)) := (Below.refl _ _).alloc (Nat.le_refl _) _
      have hbwc := hbw.trans (hbc.mono hbw.size)
      have S1 := hide ((Sl.ok RRdn.ok).below K1.out hbwc)
      have S2 := hide ((Sl.ok RRdn.ok).below hsl hbwc)
      have HM := hide (HMX.out.below hbwc)
      have HSB := hide hsb2
      have HBC := hide (hb.trans (hbc.mono hb.size))
      clear hb hbw d0 d1 d2 hsl hsb2 hkb hnb hbe hp e0 e1 e2 ht2 hsb1 hbc hbwc H
      go_wp2_with fail
      refine (gSame_any kb k t2 t nb n A2' A c2 c (by omega) (by omega) HSB.out HN.out p HP.out _ HM.out S2.out S1.out).mono ?_
      rintro e w5 ⟨rfl, hb5⟩
      have HB5 := hide (HBC.out.trans (hb5.mono HBC.out.size))
      clear hb5 q0 q1 q2 f0 f1 f2
      cases p
      · have HY := hide (show l.any (fun x => sameG x gg) = (l.drop (j + 1)).any (fun x => sameG x gg) by rw [HX2.out, Bool.false_or])
        go_wp2_with fail
        go_roundw
        case rel => exact ⟨j + 1, by omega, by go_num, HB5.out, HY⟩
        case measure => simp [intOf]; omega
      · have HY2 := hide (show addG l (k, t.data.toList, n) = l by rw [← HGG.out, addG, HX2.out, Bool.true_or, if_pos rfl])
        have HW5 := hide (HBA.out.trans (HB5.out.mono HBA.out.size))
        go_wp2_with fail
        go_ret
        unfold AddPost
        rw [HY2.out]
        exact ⟨some ⟨b2, o2, none⟩, d, S, rfl, HOWN.out.below RGen.ok HS.out HW5.out, fun j hj => .inl hj, ⟨HW5.out.os, HW5.out.tape, HW5.out.output, HW5.out.size, fun k hk _ => HW5.out.block k hk⟩, .inl rfl⟩
    · have hY : addG l gg = l ++ [gg] := by rw [addG, H.out, List.drop_of_length_le (by omega)]; rfl
      have HY2 := hide (show addG l (k, t.data.toList, n) = l ++ [(k, t.data.toList, n)] by rw [← HGG.out]; exact hY)
      have e0 := cell_grows hb _ _ A0.out
      have e1 := cell_grows hb _ _ A1.out
      have e2 := cell_grows hb _ _ A2.out
      have CL := hide (cloneName_any k t n A c HCP.out wr ((Sl.ok RRdn.ok).below K1.out hbw))
      clear hb hbw hY H
      go_wp2_with fail
      refine CL.out.mono ?_
      rintro e w5 ⟨A5, c5, rfl, hsl5, hb5⟩
      obtain ⟨hc1, hc2⟩ := gen_step2 (k := k) (t := t) HOWN.out HS.out HBW.out hb5 hsl5
      have hz5 := hb5.size
      have hzw := HBW.out.size
      have HW5 := hide (HBW.out.trans (hb5.mono HBW.out.size))
      have hc3 : ∀ (ob : Obj) (b : Nat), (S b ∨ (w.heap.size ≤ b ∧ b < w5.heap.size)) → b < (w5.alloc ob).heap.size := fun ob b hb => by
        rw [World.size_alloc]
        rcases hb with hb | hb
        · have := HS.out b hb
          omega
        · omega
      clear hsl5 hb5 e0 e1 e2
      go_wp2_with (first
        | (at_builtin; refine wpList_app RGen.ok _ rfl (.tmp 18) (.tmp 21) 56 rfl base 61 (.agg #[.int .i64 0, .string ⟨#[]⟩, .slice none 0 0]) 48 Tryd.underlying56 info_gen rfl (by decide) _ _ l rfl hc1 ⟨_, 0, none⟩ 1 1 [(k, t.data.toList, n)] rfl rfl hc2 (hc3 _) (by simp; omega) (by simp [maxLen]; omega) (by rw [World.size_alloc]; omega) ?_; intro v6 w6 hown6 hgr6 hb6 hat6)
        | fail)
      go_ret
      obtain ⟨A6, c6, hv6⟩ := (hown6.sl RGen.ok).shape
      subst hv6
      unfold AddPost
      rw [HY2.out]
      have hg6 := hgr6.size
      rw [World.size_alloc] at hg6
      refine ⟨A6, c6, _, rfl, hown6, fun j hj => ?_, ⟨hgr6.os.trans HW5.out.os, hgr6.tape.trans HW5.out.tape, hgr6.output.trans HW5.out.output, by omega, fun k hk hne => (hgr6.block k (by rw [World.size_alloc]; omega) hne).trans ((Below.heap_alloc _ _ k (by omega)).trans (HW5.out.block k hk))⟩, ?_⟩
      · rcases hj with hj | hj
        · exact .inl hj
        · exact .inr ⟨hj.1, by have := hj.2; omega⟩
      · rcases hat6 with h | h
        · exact .inl h
        · exact .inr ⟨_, h, by rw [World.size_alloc]; omega⟩

theorem Sl.intAt {w : World} {S : Nat → Prop} {A : Option Addr} {n c : Nat} {l : List Int} (h : Sl RInt 1 w S l [.slice A n c]) {i : Nat} (hi : i < l.length) :
    ∃ b off : Nat, A = some ⟨b, off, none⟩ ∧ S b ∧ w.cell? ⟨b, off + i, none⟩ = some (.int .i64 l[i]) := by
  obtain ⟨b, off, xs, hA, hb, hr, hh⟩ := h.at_ hi
  have hr' : xs = intC l[i] := hr
  subst hr'
  refine ⟨b, off, hA, hb, ?_⟩
  have := hh 0 _ rfl
  rwa [Nat.mul_one, Nat.add_zero] at this

set_option maxRecDepth 100000 in
set_option maxHeartbeats 8000000 in
theorem permitsR_any (g : Gen) (t : ByteArray) (A : Option Addr) (c : Nat) (lim : List Int) (per ex : List Gen) (B1 B2 B3 : Option Addr) (d1 d2 d3 : Nat) (ht : t.data.toList = g.2.1) (hg : SmallG g) (hl2 : SmallGs per) (hl3 : SmallGs ex) (q : Bool) (hq : permitsR lim per ex g = q) (w : World) (hmx : Mx w)
    (h0 : Sl RRdn 1 w (Lt w.heap.size) g.2.2 [.slice A g.2.2.length c]) (h1 : Sl RInt 1 w (Lt w.heap.size) lim [.slice B1 lim.length d1]) (h2 : Sl RGen 3 w (Lt w.heap.size) per [.slice B2 per.length d2]) (h3 : Sl RGen 3 w (Lt w.heap.size) ex [.slice B3 ex.length d3]) :
    Calls Tryd.prog 32 #[.agg #[.slice B1 lim.length d1, .slice B2 per.length d2, .slice B3 ex.length d3], .agg #[.int .i64 g.1, .string t, .slice A g.2.2.length c]] w fun e w' => e = .returned (.bool q) ∧ Below w.heap.size w w' := by
  obtain ⟨-, hlc, hlm⟩ := h1.len_
  unfold maxLen at hlm
  have HMX := hide hmx
  have K0 := hide h0
  have K1 := hide h1
  have K2 := hide h2
  have K3 := hide h3
  obtain ⟨pe, hpe⟩ : ∃ p, insideG g ex = p := ⟨_, rfl⟩
  obtain ⟨pp, hpp⟩ : ∃ p, insideG g per = p := ⟨_, rfl⟩
  have IE := hide (fun W hm hn hs => inside_any g t A c ex B3 d3 ht hg hl3 pe hpe W hm hn hs)
  have IP := hide (fun W hm hn hs => inside_any g t A c per B2 d2 ht hg hl2 pp hpp W hm hn hs)
  have HQ := hide (show (!pe && (if (lim.drop 0).any (fun k => k == g.1) then pp else true)) = q by rw [← hq, permitsR, hpe, hpp]; rfl)
  obtain ⟨wa, hwa⟩ : ∃ wa, wa = (w.alloc (.cells #[.slice B1 lim.length d1, .slice B2 per.length d2, .slice B3 ex.length d3] 65)).alloc (.cells #[.int .i64 g.1, .string t, .slice A g.2.2.length c] 61) := ⟨_, rfl⟩
  have hz : (w.alloc (.cells #[.slice B1 lim.length d1, .slice B2 per.length d2, .slice B3 ex.length d3] 65)).heap.size = w.heap.size + 1 := by simp
  have s0 : wa.cell? ⟨w.heap.size, 0, none⟩ = some (.slice B1 lim.length d1) := by rw [hwa, World.cell?_alloc_lt _ _ _ (by simp), World.cell?_alloc_new]; rfl
  have s1 : wa.cell? ⟨w.heap.size, 1, none⟩ = some (.slice B2 per.length d2) := by rw [hwa, World.cell?_alloc_lt _ _ _ (by simp), World.cell?_alloc_new]; rfl
  have s2 : wa.cell? ⟨w.heap.size, 2, none⟩ = some (.slice B3 ex.length d3) := by rw [hwa, World.cell?_alloc_lt _ _ _ (by simp), World.cell?_alloc_new]; rfl
  have a0 : wa.cell? ⟨w.heap.size + 1, 0, none⟩ = some (.int .i64 g.1) := by rw [hwa, ← hz, World.cell?_alloc_new]; rfl
  have a1 : wa.cell? ⟨w.heap.size + 1, 1, none⟩ = some (.string t) := by rw [hwa, ← hz, World.cell?_alloc_new]; rfl
  have a2 : wa.cell? ⟨w.heap.size + 1, 2, none⟩ = some (.slice A g.2.2.length c) := by rw [hwa, ← hz, World.cell?_alloc_new]; rfl
  have hba : Below w.heap.size w wa := by rw [hwa]; exact ((Below.refl _ _).alloc (Nat.le_refl _) _).alloc (by simp) _
  obtain ⟨gg, hgg⟩ : ∃ gg, gg = w.heap.size + 1 := ⟨_, rfl⟩
  rw [← hgg] at a0 a1 a2
  have HGG := hide hgg
  have HWA := hide hwa
  have HBA := hide hba
  have HMA := hide (HMX.out.below hba)
  have N0 := hide ((Sl.ok RRdn.ok).below h0 hba)
  have N2 := hide ((Sl.ok RGen.ok).below h2 hba)
  have N3 := hide ((Sl.ok RGen.ok).below h3 hba)
  clear hmx h0 h1 h2 h3 hpe hpp hl2 hl3 hq hg ht hwa hz hgg hba
  go_enter Tryd.func32, Tryd.ntmps32
  go_upto_region 1 with (fail)
  rw [← HWA.out, ← HGG.out]
  go_wp2_with fail
  refine (IE.out _ HMA.out N0.out N3.out).mono ?_
  rintro e w5 ⟨rfl, hb5⟩
  have HB5 := hide (HBA.out.trans (hb5.mono HBA.out.size))
  cases pe
  · have HQ2 := hide (show (if (lim.drop 0).any (fun k => k == g.1) then pp else true) = q from HQ.out)
    have a0 := cell_grows hb5 _ _ a0
    have a1 := cell_grows hb5 _ _ a1
    have a2 := cell_grows hb5 _ _ a2
    have s0 := cell_grows hb5 _ _ s0
    have s1 := cell_grows hb5 _ _ s1
    have N0 := hide ((Sl.ok RRdn.ok).below N0.out hb5)
    have N2 := hide ((Sl.ok RGen.ok).below N2.out hb5)
    have M5 := hide (HMA.out.below hb5)
    clear hb5 s2
    go_wp2_with fail
    go_loopw [14] (fun i wr => ∃ k : Nat, k ≤ lim.length ∧ i = .int .i64 k ∧ w5 = wr ∧ Hid ((if (lim.drop k).any (fun k => k == g.1) then pp else true) = q)) (fun i _ => lim.length - (intOf i).toNat)
    case atStart => exact ⟨0, Nat.zero_le _, rfl, rfl, HQ2⟩
    case round =>
      obtain ⟨k, hk, rfl, rfl, H⟩ := hrel
      by_cases hlt : k < lim.length
      · obtain ⟨b2, o2, hB, hbS, d0⟩ := K1.out.intAt hlt
        subst hB
        have hbS' : b2 < w.heap.size := hbS
        obtain ⟨kb, hkb⟩ : ∃ kb, lim[k] = kb := ⟨_, rfl⟩
        obtain ⟨p, hp⟩ : ∃ p, (kb == g.1) = p := ⟨_, rfl⟩
        have HX := hide (show (if (p || (lim.drop (k + 1)).any (fun k => k == g.1)) = true then pp else true) = q by rw [← H.out, List.drop_eq_getElem_cons hlt, List.any_cons, hkb, hp])
        rw [hkb] at d0
        have f0 := (HB5.out.cell (p := ⟨b2, o2 + k, none⟩) hbS').trans d0
        clear d0 hkb H
        cases p
        · have HY := hide (show (if (lim.drop (k + 1)).any (fun k => k == g.1) then pp else true) = q from HX.out)
          go_wp2_with fail
          go_roundw
          case rel => exact ⟨k + 1, by omega, by go_num, trivial, HY⟩
          case measure => simp [intOf]; omega
        · have HY := hide (show pp = q from HX.out)
          go_wp2_with fail
          refine (IP.out _ M5.out N0.out N2.out).mono ?_
          rintro e w6 ⟨rfl, hb6⟩
          have HB6 := hide (HB5.out.trans (hb6.mono HB5.out.size))
          clear hb6
          go_wp2_with fail
          go_ret
          exact ⟨ret_bool HY.out, HB6.out⟩
      · have HY := hide (show true = q by rw [← H.out, List.drop_of_length_le (by omega)]; rfl)
        clear H
        go_wp2_with fail
        go_ret
        exact ⟨ret_bool HY.out, HB5.out⟩
  · have HY := hide (show false = q from HQ.out)
    clear hb5
    go_wp2_with fail
    go_ret
    exact ⟨ret_bool HY.out, HB5.out⟩
end Go.Proofs.YtepibepgfackkaaDoor
