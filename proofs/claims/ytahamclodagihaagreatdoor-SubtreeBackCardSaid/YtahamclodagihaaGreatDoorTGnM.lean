/- The example of the chapter of package subtree: awake. -/
import Derived.Test.YtahamclodagihaaGreatDoorTGnI
import Derived.Test.YtahamclodagihaaGreatDoorTGGnC
namespace Go.Proofs.YtahamclodagihaaGreatDoor
open Go.RowKit
theorem gen_lit (w : World) (k : Int) (t : ByteArray) (T : TypeId) : Sl RGen 3 (w.alloc (.cells #[.int .i64 k, .string t, .slice none 0 0] T)) (Lt (w.alloc (.cells #[.int .i64 k, .string t, .slice none 0 0] T)).heap.size) [((k, t.data.toList, []) : Gen)] [.slice (some ⟨w.heap.size, 0, none⟩) 1 1] := by
  refine ⟨_, _, rfl, Nat.le_refl _, by simp [maxLen], fun _ => ⟨w.heap.size, 0, rfl, by show w.heap.size < _; simp, fun i x hx => ?_⟩⟩
  match i, hx with
  | 0, hx =>
    simp at hx; subst hx
    refine ⟨[.int .i64 k, .string t, .slice none 0 0], ⟨_, rfl, Sl.nil _ _ _ _⟩, fun j u hu => ?_⟩
    rw [Nat.zero_mul, Nat.zero_add, Nat.zero_add, World.cell?_alloc_new]
    simpa using hu
theorem cp_one (k : Int) (t : List UInt8) : CpS ([(k, t, [])], []) := ⟨⟨by simp, fun g hg => by
 simp at hg; subst hg
 exact ⟨by simp, fun r hr => by cases hr⟩⟩, ⟨by simp, fun g hg => by cases hg⟩⟩
theorem add_one (st : List Sub) (B : Option Addr) (n m d : Nat) (k : Int) (t : ByteArray) (hn : st.length = n) (hm : n + 1 = m) (hln : st.length ≤ 10) (hcp : ∀ s ∈ st, CpS s) (w : World) (h0 : Sl RSub 2 w (Lt w.heap.size) st [.slice B st.length d]) :
  Calls Tryz.prog 76 #[.agg #[.slice B n d], .agg #[.slice (some ⟨w.heap.size, 0, none⟩) 1 1, .slice none 0 0]] (w.alloc (.cells #[.int .i64 k, .string t, .slice none 0 0] 62)) fun e w' =>
   ∃ (B' : Option Addr) (d' : Nat), e = .returned (.agg #[.slice B' m d']) ∧ Sl RSub 2 w' (Btw w.heap.size w'.heap.size) (st ++ [([(k, t.data.toList, [])], [])]) [.slice B' (st ++ [(([(k, t.data.toList, [])], []) : Sub)]).length d'] ∧ Below w.heap.size w w' := by
 subst hn hm
 have hb : Below w.heap.size w (w.alloc (.cells #[.int .i64 k, .string t, .slice none 0 0] 62)) := (Below.refl _ _).alloc (Nat.le_refl _) _
 refine (Add_any st [(k, t.data.toList, [])] [] B _ _ d 1 0 (by omega) hcp (cp_one k _) _ ((Sl.ok RSub.ok).below h0 hb) (gen_lit w k t _) (Sl.nil _ _ _ _)).mono ?_
 rintro e w' ⟨B', d', rfl, hsl, hb2⟩
 refine ⟨B', d', by simp, (Sl.ok RSub.ok).mono hsl (fun _ _ => rfl) (fun j hj => ⟨by have := hj.1; simp at this; omega, hj.2⟩), hb.trans (hb2.mono hb.size)⟩
theorem permits_lit (st : List Sub) (B : Option Addr) (n d : Nat) (k : Int) (t : ByteArray) (q : Bool) (hn : st.length = n) (ht : t.size ≤ 1000) (hl : SmallS st) (hq : permitsG st (k, t.data.toList, []) = q) (w : World) (hmx : Mx w) (h : Sl RSub 2 w (Lt w.heap.size) st [.slice B st.length d]) :
  Calls Tryz.prog 77 #[.agg #[.slice B n d], .agg #[.int .i64 k, .string t, .slice none 0 0]] w fun e w' => e = .returned (.bool q) ∧ Below w.heap.size w w' := by
 subst hn
 exact permits_any (k, t.data.toList, []) t none 0 st B d rfl ⟨by show t.data.toList.length ≤ 100000; rw [size_string]; omega, fun r hr => by cases hr⟩ hl q hq w hmx (Sl.nil _ _ _ _) h
def awS : List Sub := [([(2, [101, 120, 97, 109, 112, 108, 101, 46, 111, 114, 103], [])], []), ([(2, [119, 119, 119, 46, 101, 120, 97, 109, 112, 108, 101, 46, 111, 114, 103], [])], [])]
theorem aws1 : permitsG awS (2, [119, 119, 119, 46, 101, 120, 97, 109, 112, 108, 101, 46, 111, 114, 103], []) = true := by decide +kernel
theorem aws2 : permitsG awS (2, [101, 120, 97, 109, 112, 108, 101, 46, 111, 114, 103], []) = false := by decide +kernel
theorem aws3 : permitsG awS (1, [97, 64, 98], []) = true := by decide +kernel
theorem aws_small : SmallS awS := by
 have key : ∀ l : List UInt8, l.length ≤ 100 → SmallGs [(2, l, [])] := fun l hl g hg => by
  simp at hg; subst hg
  exact ⟨by show l.length ≤ 100000; omega, fun r hr => by cases hr⟩
 intro s hs
 simp only [awS, List.mem_cons, List.not_mem_nil, or_false] at hs
 rcases hs with rfl | rfl
 ·exact ⟨key _ (by decide), fun g hg => by cases hg⟩
 ·exact ⟨key _ (by decide), fun g hg => by cases hg⟩
set_option maxRecDepth 100000 in
set_option maxHeartbeats 8000000 in
theorem sawake_any (w : World) (hmx : Mx w) : Calls Tryz.prog 26 #[] w fun e w' => e = .returned (.bool true) ∧ Below w.heap.size w w' := by
 have HMX := hide hmx
 have A1 := hide (fun W => add_one [] none 0 1 0 2 ⟨#[101, 120, 97, 109, 112, 108, 101, 46, 111, 114, 103]⟩ rfl rfl (by simp) (fun s hs => by cases hs) W (Sl.nil _ _ _ _))
 obtain ⟨s1, hs1⟩ : ∃ s1 : List Sub, s1 = [] ++ [([(2, [101, 120, 97, 109, 112, 108, 101, 46, 111, 114, 103], [])], [])] := ⟨_, rfl⟩
 obtain ⟨s2, hs2⟩ : ∃ s2 : List Sub, s2 = s1 ++ [([(2, [119, 119, 119, 46, 101, 120, 97, 109, 112, 108, 101, 46, 111, 114, 103], [])], [])] := ⟨_, rfl⟩
 have hl1 : s1.length = 1 := by rw [hs1]; rfl
 have hl2 : s2.length = 2 := by rw [hs2, hs1]; rfl
 have hcp1 : ∀ s ∈ s1, CpS s := fun s hs => by
  rw [hs1] at hs
  simp at hs; subst hs
  exact cp_one _ _
 have haw : s2 = awS := by rw [hs2, hs1]; rfl
 have A2 := hide (fun W B d h => add_one s1 B 1 2 d 2 ⟨#[119, 119, 119, 46, 101, 120, 97, 109, 112, 108, 101, 46, 111, 114, 103]⟩ hl1 rfl (by omega) hcp1 W h)
 have P1 := hide (fun W B d hm h => permits_lit s2 B 2 d 2 ⟨#[119, 119, 119, 46, 101, 120, 97, 109, 112, 108, 101, 46, 111, 114, 103]⟩ true hl2 (by decide) (haw ▸ aws_small) (haw ▸ aws1) W hm h)
 have P2 := hide (fun W B d hm h => permits_lit s2 B 2 d 2 ⟨#[101, 120, 97, 109, 112, 108, 101, 46, 111, 114, 103]⟩ false hl2 (by decide) (haw ▸ aws_small) (haw ▸ aws2) W hm h)
 have P3 := hide (fun W B d hm h => permits_lit s2 B 2 d 1 ⟨#[97, 64, 98]⟩ true hl2 (by decide) (haw ▸ aws_small) (haw ▸ aws3) W hm h)
 have HS1 := hide hs1
 have HS2 := hide hs2
 clear hs1 hs2 hcp1 haw hmx
 go_enter Tryz.func26, Tryz.ntmps26
 go_wp2_with fail
 refine (A1.out _).mono ?_
 rintro e w1 ⟨B1, d1, rfl, hsl1, hb1⟩
 have hsl1 : Sl RSub 2 w1 (Lt w1.heap.size) s1 [.slice B1 s1.length d1] := by
  rw [HS1.out]
  exact (Sl.ok RSub.ok).mono hsl1 (fun _ _ => rfl) (fun j hj => hj.2)
 have hsl1 := (Sl.ok RSub.ok).below hsl1 ((Below.refl _ _).alloc (Nat.le_refl _) (.cells #[.slice B1 1 d1] 109))
 have HSL1 := hide hsl1
 have hg1 : TB w1.heap.size (.slice B1 1 d1) (w1.alloc (.cells #[.slice B1 1 d1] 109)) := heap_alloc_new w1 _
 have HG1 := hide hg1
 have HB1 := hide (hb1.alloc hb1.size (.cells #[.slice B1 1 d1] 109))
 have hz1 := hb1.size
 clear hsl1 hb1 hg1
 obtain ⟨wz, hwz⟩ : ∃ wz, wz = w1.alloc (.cells #[.slice B1 1 d1] 109) := ⟨_, rfl⟩
 rw [← hwz] at HSL1 HG1 HB1
 obtain ⟨c0, f0⟩ := HG1.out.facts
 have hgl := HG1.out.lt
 have hwg : w.heap.size ≤ w1.heap.size := by omega
 go_upto_region 2 with (fail)
 rw [← hwz]
 clear hwz
 go_wp2_with fail
 refine (A2.out _ _ _ HSL1.out).mono ?_
 rintro e w2 ⟨B2, d2, rfl, hsl2, hb2⟩
 rw [← HS2.out] at hsl2
 have hg2 : TB w1.heap.size (.slice B1 1 d1) w2 := HG1.out.below hb2 hgl
 obtain ⟨c2, f2⟩ := hg2.facts
 have HB2 := hide (HB1.out.trans (hb2.mono HB1.out.size))
 have hz2 := hb2.size
 have hslz : Sl RSub 2 (w2.setCell ⟨w1.heap.size, 0, none⟩ (.slice B2 2 d2)) (Lt (w2.setCell ⟨w1.heap.size, 0, none⟩ (.slice B2 2 d2)).heap.size) s2 [.slice B2 s2.length d2] :=
  (Sl.ok RSub.ok).mono hsl2 (fun j hj => Below.heap_setCell _ ⟨w1.heap.size, 0, none⟩ _ j (by show j ≠ w1.heap.size; have := hj.1; omega)) (fun j hj => by show j < _; simp; exact hj.2)
 have hbz : Below w.heap.size w (w2.setCell ⟨w1.heap.size, 0, none⟩ (.slice B2 2 d2)) := HB2.out.setCell (p := ⟨w1.heap.size, 0, none⟩) hwg _
 have hgz := hg2.store (.slice B2 2 d2)
 clear hb2 hsl2 HG1
 obtain ⟨wy, hwy⟩ : ∃ wy, wy = w2.setCell ⟨w1.heap.size, 0, none⟩ (.slice B2 2 d2) := ⟨_, rfl⟩
 rw [← hwy] at hslz hbz hgz
 have HSZ := hide hslz
 have HBZ := hide hbz
 have HGZ := hide hgz
 have HMZ := hide (HMX.out.below hbz)
 obtain ⟨y0, -⟩ := hgz.facts
 clear hslz hbz hgz
 go_upto_region 3 with (fail)
 rw [← hwy]
 clear hwy c2 f2 hg2
 go_wp2_with fail
 refine (P1.out _ _ _ HMZ.out HSZ.out).mono ?_
 rintro e w3 ⟨rfl, hb3⟩
 have HSZ3 := hide ((Sl.ok RSub.ok).below HSZ.out hb3)
 have HMZ3 := hide (HMZ.out.below hb3)
 have HB3 := hide (HBZ.out.trans (hb3.mono HBZ.out.size))
 have y3 := cell_grows hb3 _ _ y0
 clear hb3
 go_wp2_with fail
 refine (P2.out _ _ _ HMZ3.out HSZ3.out).mono ?_
 rintro e w4 ⟨rfl, hb4⟩
 have HSZ4 := hide ((Sl.ok RSub.ok).below HSZ3.out hb4)
 have HMZ4 := hide (HMZ3.out.below hb4)
 have HB4 := hide (HB3.out.trans (hb4.mono HB3.out.size))
 have y4 := cell_grows hb4 _ _ y3
 clear hb4
 go_wp2_with fail
 refine (P3.out _ _ _ HMZ4.out HSZ4.out).mono ?_
 rintro e w5 ⟨rfl, hb5⟩
 have HB5 := hide (HB4.out.trans (hb5.mono HB4.out.size))
 clear hb5
 go_wp2_with fail
 go_ret
 exact ⟨rfl, HB5.out⟩
end Go.Proofs.YtahamclodagihaaGreatDoor
