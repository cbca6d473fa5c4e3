/- The functions of package subtree: each, over name constraints. -/
import Derived.Test.YtahamclodagihaaGreatDoorTGnG
namespace Go.Proofs.YtahamclodagihaaGreatDoor
open Go.RowKit
theorem info_sub : (Tryz.prog.info? 52).map (fun i => (i.zero, i.size, i.bytes)) = some (some (.agg #[.slice none 0 0, .slice none 0 0]), 2, 48) := by kernel_rfl
theorem sub_step {wr W w1 : World} {base : Nat} {S : Nat → Prop} {v : Value} {l : List Sub} {p x : List Gen} {A1 A2 : Option Addr} {c1 c2 : Nat} (hown : Own RSub 2 52 wr base S v l) (hS : ∀ j, S j → base ≤ j ∧ j < wr.heap.size) (hbase : base ≤ wr.heap.size)
    (hbW : Below wr.heap.size wr W) (hb : Below W.heap.size W w1) (h1 : Sl RGen 3 w1 (Btw W.heap.size w1.heap.size) p [.slice A1 p.length c1]) (h2 : Sl RGen 3 w1 (Btw W.heap.size w1.heap.size) x [.slice A2 x.length c2]) :
    ∃ S' : Nat → Prop, Own RSub 2 52 (w1.alloc (.cells #[.slice A1 p.length c1, .slice A2 x.length c2] 52)) base S' v l ∧
      (∀ i z, [((p, x) : Sub)][i]? = some z → ∃ cs, RSub (w1.alloc (.cells #[.slice A1 p.length c1, .slice A2 x.length c2] 52)) S' z cs ∧ ∀ j u, cs[j]? = some u → (w1.alloc (.cells #[.slice A1 p.length c1, .slice A2 x.length c2] 52)).cell? ((⟨w1.heap.size, 0, none⟩ : Addr).add (i * 2 + j)) = some u) ∧
      ∀ j, S' j → base ≤ j ∧ j < (w1.alloc (.cells #[.slice A1 p.length c1, .slice A2 x.length c2] 52)).heap.size := by
  obtain ⟨S', hS'⟩ : ∃ S' : Nat → Prop, S' = fun j => S j ∨ (W.heap.size ≤ j ∧ j < w1.heap.size) := ⟨_, rfl⟩
  have hz := hb.size
  have hzW := hbW.size
  have hS2 : ∀ j, S' j → base ≤ j ∧ j < w1.heap.size := fun j hj => by
    rw [hS'] at hj
    rcases hj with hj | hj
    · have := hS j hj; omega
    · omega
  have hnoS : ∀ g, v.ownBlock = some g → ¬ S' g := fun g hg hh => by
    rw [hS'] at hh
    have hlt := (hown.lt g hg).2
    rcases hh with hh | hh
    · obtain ⟨_, _, h2, _⟩ := hown
      exact h2 g hg hh
    · omega
  have hbb : Below wr.heap.size wr w1 := hbW.trans (hb.mono hbW.size)
  have hownO := ((hown.below RSub.ok (fun j hj => (hS j hj).2) hbb).more RSub.ok (fun j hj => by rw [hS']; exact .inl hj) hnoS)
  have hownA := hownO.alloc RSub.ok (fun j hj => (hS2 j hj).2) (.cells #[.slice A1 p.length c1, .slice A2 x.length c2] 52)
  refine ⟨S', hownA, fun i z hz => ?_, fun j hj => ⟨(hS2 j hj).1, by have := (hS2 j hj).2; simp; omega⟩⟩
  match i, hz with
  | 0, hz =>
    simp at hz; subst hz
    refine ⟨[.slice A1 p.length c1, .slice A2 x.length c2], ⟨_, _, rfl, (Sl.ok RGen.ok).mono h1 (fun j hj => Below.heap_alloc _ _ j hj.2) (fun j hj => by rw [hS']; exact .inr hj), (Sl.ok RGen.ok).mono h2 (fun j hj => Below.heap_alloc _ _ j hj.2) (fun j hj => by rw [hS']; exact .inr hj)⟩, fun j u hu => ?_⟩
    rw [Addr.add_lit, Nat.zero_mul, Nat.zero_add, Nat.zero_add, World.cell?_alloc_new]
    simpa using hu
def CpS (s : Sub) : Prop := CpL s.1 ∧ CpL s.2
set_option maxRecDepth 100000 in
set_option maxHeartbeats 8000000 in
theorem eachSub_any (l : List Sub) (B : Option Addr) (d : Nat) (hln : l.length ≤ 1000) (hcp : ∀ s ∈ l, CpS s) (w : World) (h2 : Sl RSub 2 w (Lt w.heap.size) l [.slice B l.length d]) :
  Calls Tryz.prog 138 #[.slice B l.length d, .func (.func 139) #[] #[]] w fun e w' => ∃ (B' : Option Addr) (d' : Nat) (S' : Nat → Prop), e = .returned (.slice B' l.length d') ∧ Own RSub 2 52 w' w.heap.size S' (.slice B' l.length d') l ∧ (∀ b, S' b → w.heap.size ≤ b ∧ b < w'.heap.size) ∧ Below w.heap.size w w' := by
 have hcf : ∀ (x : Value) (W : World), (callFunc 139 #[x]).run Tryz.prog W = .ok (.enter 139 #[x]) W := fun x W => by kernel_rfl
 have HCP := hide hcp
 have K := hide h2
 obtain ⟨base, hbase⟩ : ∃ base, base = w.heap.size := ⟨_, rfl⟩
 have HBASE := hide hbase
 clear hcp h2 hbase
 go_enter Tryz.func138, Tryz.ntmps138
 go_wp2_with fail
 go_loopw [5, 10] (fun x i wr => ∃ (j : Nat) (v : Value) (S : Nat → Prop), j ≤ l.length ∧ v = x ∧ i = .int .i64 j ∧ Below w.heap.size w wr ∧ base ≤ wr.heap.size ∧ Own RSub 2 52 wr base S v (l.take j) ∧ ∀ b, S b → base ≤ b ∧ b < wr.heap.size) (fun _ i _ => l.length - (intOf i).toNat)
 case atStart => exact ⟨0, _, No, Nat.zero_le _, rfl, rfl, Below.refl _ _, by rw [HBASE.out]; exact Nat.le_refl _, Own.nil _ _ _ _ _ _, fun b h => h.elim⟩
 case round =>
  obtain ⟨j, v, S, hj, rfl, rfl, hb, hgs, hown, hS⟩ := hrel
  have HB := hide hb
  have HOWN := hide hown
  have HS := hide hS
  clear hown hS
  by_cases hlt : j < l.length
  ·obtain ⟨b2, o2, A1', c1, A2', c2, hB, hbS, d0, d1, hslp, hslx⟩ := K.out.subAt hlt
   subst hB
   have hbS' : b2 < w.heap.size := hbS
   have HC := hide (HCP.out l[j] (List.getElem_mem hlt))
   have HT := hide (List.take_succ_eq_append_getElem hlt)
   obtain ⟨pb, hpb⟩ : ∃ pb, l[j].1 = pb := ⟨_, rfl⟩
   obtain ⟨xb, hxb⟩ : ∃ xb, l[j].2 = xb := ⟨_, rfl⟩
   have hbe : l[j] = (pb, xb) := by rw [← hpb, ← hxb]
   rw [hpb] at d0 hslp
   rw [hxb] at d1 hslx
   rw [hbe] at HT HC
   have f0 := (hb.cell (p := ⟨b2, o2 + j * 2, none⟩) hbS').trans d0
   have f1 := (hb.cell (p := ⟨b2, o2 + j * 2 + 1, none⟩) hbS').trans d1
   have hbc : Below wr.heap.size wr (wr.alloc (.cells #[.slice A1' pb.length c1, .slice A2' xb.length c2] 52)) := (Below.refl _ _).alloc (Nat.le_refl _) _
   have SP := hide ((Sl.ok RGen.ok).below hslp (hb.trans (hbc.mono hb.size)))
   have SX := hide ((Sl.ok RGen.ok).below hslx (hb.trans (hbc.mono hb.size)))
   have HBC := hide hbc
   have hlj : (l.take j).length ≤ 1000 := by rw [List.length_take]; omega
   clear hb d0 d1 hslp hslx hpb hxb hbe hbc
   go_wp2_with fail
   refine (clone_any pb xb A1' A2' c1 c2 HC.out.1 HC.out.2 _ SP.out SX.out).mono ?_
   rintro e w5 ⟨A5, A6, c5, c6, rfl, hsl5, hsl6, hb5⟩
   obtain ⟨S', hc1, hc2, hc3⟩ := sub_step HOWN.out HS.out hgs HBC.out hb5 hsl5 hsl6
   have hz5 := hb5.size
   simp only [World.size_alloc] at hz5
   have HB5 := hide (HB.out.trans ((HBC.out.trans (hb5.mono HBC.out.size)).mono HB.out.size))
   clear hsl5 hsl6 hb5 f0 f1
   go_wp2_with (first
    | (at_builtin; refine wpList_app RSub.ok _ rfl (.tmp 14) (.tmp 18) 107 rfl base 52 (.agg #[.slice none 0 0, .slice none 0 0]) 48 Tryz.underlying107 info_sub rfl (by decide) S' _ (l.take j) rfl hc1 ⟨_, 0, none⟩ 1 1 [(pb, xb)] rfl rfl hc2 (fun b hb => (hc3 b hb).2) (by simp; omega) (by simp [maxLen]; omega) (by simp; omega) ?_; intro v6 w6 hown6 hgr6 hb6 hat6; have hsz6 := hb6.size; simp at hsz6)
    | fail)
   have hsz7 : w5.heap.size + 1 ≤ w6.heap.size := by simpa using hsz6
   have hbf : Below w.heap.size w w6 := (HB5.out.alloc HB5.out.size _).trans (by rw [← HBASE.out]; exact hb6)
   rw [← HT.out] at hown6
   go_roundw
   case rel => exact ⟨j + 1, _, S', by omega, rfl, by go_num, hbf, by omega, hown6, fun b hb => ⟨(hc3 b hb).1, by have := (hc3 b hb).2; simp at this; omega⟩⟩
   case measure => simp [intOf]; omega
  ·have htk : l.take j = l := List.take_of_length_le (by omega)
   have hown := HOWN.out
   rw [htk] at hown
   obtain ⟨A9, c9, hv⟩ := (hown.sl RSub.ok).shape
   subst hv
   have HOW := hide hown
   clear htk hown hb
   go_wp2_with fail
   go_ret
   refine ⟨A9, c9, S, rfl, ?_, ?_, HB.out⟩
   ·rw [← HBASE.out]; exact HOW.out
   ·rw [← HBASE.out]; exact HS.out
end Go.Proofs.YtahamclodagihaaGreatDoor
