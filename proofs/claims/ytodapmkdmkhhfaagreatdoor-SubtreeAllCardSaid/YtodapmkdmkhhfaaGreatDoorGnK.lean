/- States that the laws make. -/
import Derived.Test.YtodapmkdmkhhfaaGreatDoorGnJ
namespace Go.Proofs.YtodapmkdmkhhfaaGreatDoor
open Go.RowKit

theorem sub_step_ex {wr w1 : World} {base d : Nat} {S : Nat → Prop} {v : Value} {l : List Sub} {p x : List Gen} {A1 A2 : Option Addr} {c1 c2 : Nat} (hown : Own RSub 2 27 wr base S v l) (hS : ∀ j, S j → base ≤ j ∧ j < wr.heap.size) (hbase : base ≤ wr.heap.size)
    (hex : Ex d wr w1) (hd : d < base) (hz : wr.heap.size ≤ w1.heap.size) (h1 : Sl RGen 3 w1 (Btw wr.heap.size w1.heap.size) p [.slice A1 p.length c1]) (h2 : Sl RGen 3 w1 (Btw wr.heap.size w1.heap.size) x [.slice A2 x.length c2]) :
    ∃ S' : Nat → Prop, Own RSub 2 27 (w1.alloc (.cells #[.slice A1 p.length c1, .slice A2 x.length c2] 27)) base S' v l ∧
      (∀ i z, [((p, x) : Sub)][i]? = some z → ∃ cs, RSub (w1.alloc (.cells #[.slice A1 p.length c1, .slice A2 x.length c2] 27)) S' z cs ∧ ∀ j u, cs[j]? = some u → (w1.alloc (.cells #[.slice A1 p.length c1, .slice A2 x.length c2] 27)).cell? ((⟨w1.heap.size, 0, none⟩ : Addr).add (i * 2 + j)) = some u) ∧
      ∀ j, S' j → base ≤ j ∧ j < (w1.alloc (.cells #[.slice A1 p.length c1, .slice A2 x.length c2] 27)).heap.size := by
  obtain ⟨S', hS'⟩ : ∃ S' : Nat → Prop, S' = fun j => S j ∨ (wr.heap.size ≤ j ∧ j < w1.heap.size) := ⟨_, rfl⟩
  have hS2 : ∀ j, S' j → base ≤ j ∧ j < w1.heap.size := fun j hj => by
    rw [hS'] at hj
    rcases hj with hj | hj
    · have := hS j hj; omega
    · omega
  have hnoS : ∀ g, v.ownBlock = some g → ¬ S' g := fun g hg hh => by
    rw [hS'] at hh
    have hlt := (hown.lt g hg).2
    rcases hh with hh | hh
    · obtain ⟨_, _, h2, _⟩ := hown
      exact h2 g hg hh
    · omega
  have hownO := ((hown.ex RSub.ok hex hd hS).more RSub.ok (fun j hj => by rw [hS']; exact .inl hj) hnoS)
  have hownA := hownO.alloc RSub.ok (fun j hj => (hS2 j hj).2) (.cells #[.slice A1 p.length c1, .slice A2 x.length c2] 27)
  refine ⟨S', hownA, fun i z hz => ?_, fun j hj => ⟨(hS2 j hj).1, by have := (hS2 j hj).2; simp; omega⟩⟩
  match i, hz with
  | 0, hz =>
    simp at hz; subst hz
    refine ⟨[.slice A1 p.length c1, .slice A2 x.length c2], ⟨_, _, rfl, (Sl.ok RGen.ok).mono h1 (fun j hj => Below.heap_alloc _ _ j hj.2) (fun j hj => by rw [hS']; exact .inr hj), (Sl.ok RGen.ok).mono h2 (fun j hj => Below.heap_alloc _ _ j hj.2) (fun j hj => by rw [hS']; exact .inr hj)⟩, fun j u hu => ?_⟩
    rw [Addr.add_lit, Nat.zero_mul, Nat.zero_add, Nat.zero_add, World.cell?_alloc_new]
    simpa using hu
theorem TB.base {g B : Nat} {u : Value} {W W' : World} (h : TB g u W) (hb : Below B W W') (hg : g < B) : TB g u W' := (hb.block g hg).trans h
theorem TB.alloc {g : Nat} {u : Value} {W : World} (h : TB g u W) (o : Obj) : TB g u (W.alloc o) := (Below.heap_alloc W o g h.lt).trans h
theorem TB.other {g k j : Nat} {u : Value} {W : World} (h : TB g u W) (hk : g ≠ k) (a : Value) : TB g u (W.setCell ⟨k, j, none⟩ a) :=
  (Below.heap_setCell W ⟨k, j, none⟩ a g hk).trans h
/-- a made state: at most four good constraints -/
def GoodSt (st : List Sub) : Prop := st.length ≤ 4 ∧ ∀ s ∈ st, GoodSub s
theorem GoodSt.cp {st : List Sub} (h : GoodSt st) : ∀ s ∈ st, CpS s := fun s hs => (h.2 s hs).cp
theorem GoodSt.small {st : List Sub} (h : GoodSt st) : SmallS st := fun s hs => (h.2 s hs).small
def StPost (d : Nat) (w : World) (e : Ending) (w' : World) : Prop :=
  ∃ (st : List Sub) (A : Option Addr) (c : Nat), GoodSt st ∧ e = .returned (.agg #[.slice A st.length c]) ∧ Sl RSub 2 w' (Btw w.heap.size w'.heap.size) st [.slice A st.length c] ∧ DeckAt w' d ∧ Ex d w w'

set_option maxRecDepth 100000 in
set_option maxHeartbeats 16000000 in
theorem state_any (d : Nat) (w : World) (h : DeckAt w d) : Calls Tryz.prog 12 #[.pointer (some ⟨d, 0, none⟩)] w (StPost d w) := by
  have hd := h.lt
  have HDK0 := hide (fun o1 o2 => (h.alloc o1).alloc o2)
  clear h
  go_enter Tryz.func12, Tryz.ntmps12
  go_wp2_with fail
  refine (Next_any d 5 (by omega) (by omega) _ (HDK0.out _ _)).mono ?_
  rintro e w1 ⟨v4, hv4, rfl, hdk, hex⟩
  have hsb2 : TB w.heap.size (.slice none 0 0) w1 := TB.ex (by
    unfold TB
    rw [Below.heap_alloc _ _ _ (by simp)]
    exact heap_alloc_new w _) hex (by omega)
  have hsb3 : TB (w.heap.size + 1) (.slice none 0 0) w1 := TB.ex (by
    unfold TB
    rw [show w.heap.size + 1 = (w.alloc (.cells #[.slice none 0 0] 24)).heap.size by simp]
    exact heap_alloc_new _ _) hex (by omega)
  have hz1 : w.heap.size + 2 ≤ w1.heap.size := by have := hex.size; simp at this; omega
  have HEX := hide (show Ex d w w1 from (((Ex.refl d w).alloc _).alloc _).trans hex)
  have HDK := hide hdk
  obtain ⟨g3, hg3⟩ : ∃ g3, g3 = w.heap.size + 1 := ⟨_, rfl⟩
  obtain ⟨base, hbase⟩ : ∃ base, base = w.heap.size + 2 := ⟨_, rfl⟩
  rw [← hg3] at hsb3 ⊢
  have HSB2 := hide hsb2
  have HSB3 := hide hsb3
  have hg3b : g3 < base := by omega
  have h2b : w.heap.size < base := by omega
  have h23 : w.heap.size < g3 := by omega
  have hd3 : d < g3 := by omega
  have hdb : d < base := by omega
  have hwb : w.heap.size ≤ base := by omega
  have hg3d : g3 ≠ d := by omega
  have h2d : w.heap.size ≠ d := by omega
  have hb1 : base ≤ w1.heap.size := by omega
  clear hex hdk hsb2 hsb3 hz1 hg3 hbase
  go_wp2_with fail
  go_loopw [4] (fun i wr => ∃ (k : Nat) (l : List Sub) (v : Value) (S : Nat → Prop), k + l.length ≤ 4 ∧ i = .int .i64 k ∧ Ex d w wr ∧ DeckAt wr d ∧ base ≤ wr.heap.size ∧ TB g3 v wr ∧ TB w.heap.size (.slice none 0 0) wr ∧ Own RSub 2 27 wr base S v l ∧
      (∀ j, S j → base ≤ j ∧ j < wr.heap.size) ∧ ∀ s ∈ l, GoodSub s) (fun i _ => (intOf i).toNat)
  case atStart => exact ⟨v4, [], _, No, by simp; omega, rfl, HEX.out, HDK.out, hb1, HSB3.out, HSB2.out, Own.nil _ _ _ _ _ _, fun j h => h.elim, fun x hx => by cases hx⟩
  case round =>
    obtain ⟨k, l, v, S, hk, rfl, hex, hdk, hgs, hsb3, hsb2, hown, hS, hgl⟩ := hrel
    obtain ⟨A9, c9, hv9⟩ := (hown.sl RSub.ok).shape
    subst hv9
    have HSB3 := hide hsb3
    have HSB2 := hide hsb2
    have HEX := hide hex
    have HDK := hide hdk
    have HOWN := hide hown
    have HS := hide hS
    have HGL := hide hgl
    clear hsb3 hsb2 hex hdk hown hS hgl
    by_cases hlt : 0 < k
    · have hk1 : (1 : Int) ≤ (k : Int) := by omega
      have hk0 : (0 : Int) < (k : Int) := by omega
      have hlk : l.length ≤ 4 := by omega
      have HSBD := hide (show TB g3 _ wr.drew from HSB3.out)
      have y0d : wr.drew.cell? ⟨g3, 0, none⟩ = some (.slice A9 l.length c9) := HSBD.out.facts.1
      have E0 := hide (Subtrees_any d wr.drew (HDK.out.drewN 1))
      go_upto_region 5 with (fail)
      go_region_law (first
        | (go_simp; go_at_call 13; refine E0.out.mono ?_; rintro e w5 ⟨p, x, A5, A6, c5, c6, hq, rfl, hsl5, hsl6, hdk5, hex5⟩; have HQ := hide hq; have hex5 : Ex d wr w5 := (Ex.refl d wr).drew.trans hex5; have hz5 := hex5.size; obtain ⟨S', hc1, hc2, hc3⟩ := sub_step_ex HOWN.out HS.out hgs hex5 hdb hz5 hsl5 hsl6; have hsg5 := HSB3.out.ex hex5 hg3d; have hs1 : w5.cell? ⟨g3, 0, none⟩ = some (.slice A9 l.length c9) := hsg5.facts.1; have ha1 := fun ob => (hsg5.alloc ob).facts.1)
        | (refine step_app RSub.ok _ ?_ (.tmp 13) (.tmp 16) 22 ?_ base 27 (.agg #[.slice none 0 0, .slice none 0 0]) 48 Tryz.underlying22 info_sub rfl (by decide) S' (.slice A9 l.length c9) l ?_ hc1 ⟨w5.heap.size, 0, none⟩ 1 1 [(p, x)] ?_ rfl ?_ (fun b hb => (hc3 b hb).2) ?_ ?_ ?_ ?_; rfl; rfl; rfl; rfl; exact hc2; (simp; omega); (simp [maxLen]; omega); (rw [World.size_alloc]; omega); intro v7 w7 hown7 hgr7 hb7 hat7; obtain ⟨A8, c8, hv8⟩ := (hown7.sl RSub.ok).shape; obtain ⟨n8, hn8⟩ : ∃ n8, (l ++ [((p, x) : Sub)]).length = n8 := ⟨_, rfl⟩; rw [hn8] at hv8; subst hv8; have HN8 := hide hn8; clear hn8; have hg7 := (hsg5.alloc _).base hb7 hg3b; have q1 := hg7.facts.1; have q2 := hg7.facts.2; have hsz7 := hb7.size; rw [World.size_alloc] at hsz7))
      all_goals
        have hexf : Ex d w w7 := ((HEX.out.trans hex5).alloc _).then_base (hb7.mono hwb)
        have hdkf : DeckAt w7 d := (hdk5.alloc _).keep (hb7.mono (by omega))
        have hn2 := ((HSB2.out.ex hex5 h2d).alloc _).base hb7 h2b
        have HN2 := hide hn2
        have HEXF := hide hexf
        have HDKF := hide hdkf
        go_wp2_with fail
        go_roundw
        case rel => exact ⟨k - 1, l ++ [(p, x)], _, S', by simp; omega, num_pred hlt, HEXF.out.setNew (by omega) _, HDKF.out.set_ hd3 _, by simp; omega, hg7.store _, HN2.out.other (by omega) _, hown7.other RSub.ok (fun j hj => (hc3 j hj).1) hg3b _, fun j hj => ⟨(hc3 j hj).1, by have := (hc3 j hj).2; simp at this; simp; omega⟩, fun g hg => by
          rcases List.mem_append.1 hg with hg | hg
          · exact HGL.out g hg
          · simp at hg; subst hg; exact HQ.out⟩
        case measure => simp [intOf]; omega
    · obtain rfl : k = 0 := by omega
      have hslB := (Sl.ok RSub.ok).mono (HOWN.out.sl RSub.ok) (fun _ _ => rfl) (S' := Btw base wr.heap.size) (fun j hj => by
        rcases hj with hj | hj
        · exact HS.out j hj
        · exact hj)
      have hl4 : l.length ≤ 4 := by omega
      obtain ⟨s0, s1⟩ := HSB3.out.facts
      obtain ⟨r0, r1⟩ := HSB2.out.facts
      clear hk hlt
      go_wp2_with fail
      obtain ⟨wn, rfl⟩ : ∃ wn : World, wn = wr := ⟨_, rfl⟩
      have hst := HSB2.out.store (.slice A9 l.length c9)
      have hx3 := HEX.out.setNew (g := w.heap.size) (j := 0) (Nat.le_refl _) (.slice A9 l.length c9)
      have hd3' := HDK.out.set_ (g := w.heap.size) (j := 0) hd (.slice A9 l.length c9)
      have hpp : Sl RSub 2 (wn.setCell ⟨w.heap.size, 0, none⟩ (.slice A9 l.length c9)) (Btw w.heap.size (wn.setCell ⟨w.heap.size, 0, none⟩ (.slice A9 l.length c9)).heap.size) l [.slice A9 l.length c9] :=
        (Sl.ok RSub.ok).mono hslB (fun j hj => Below.heap_setCell wn _ _ j (by have := hj.1; show j ≠ w.heap.size; omega)) (fun j hj => ⟨by have := hj.1; omega, by have := hj.2; simp; omega⟩)
      obtain ⟨W3, hW3⟩ : ∃ W3, W3 = wn.setCell ⟨w.heap.size, 0, none⟩ (.slice A9 l.length c9) := ⟨_, rfl⟩
      rw [← hW3] at hst hx3 hd3' hpp ⊢
      have q8 := hst.facts.1
      exact bodyPost_ret (v := .agg #[.slice A9 l.length c9]) (by simp [results, Tryz.results12, go_sem, q8]) rfl ⟨l, A9, c9, ⟨hl4, HGL.out⟩, rfl, hpp, hd3', hx3⟩
end Go.Proofs.YtodapmkdmkhhfaaGreatDoor
